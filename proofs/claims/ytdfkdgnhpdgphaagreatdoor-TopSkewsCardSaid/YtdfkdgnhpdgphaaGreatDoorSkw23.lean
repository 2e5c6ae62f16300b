/-
  A store: isLive, node, edge, copied, reads.
-/
import Derived.Test.YtdfkdgnhpdgphaaGreatDoorSkw22
import Derived.Test.YtdfkdgnhpdgphaaGreatDoorSkw3
import Derived.Deep.RegionHeld3
import Derived.Laws.EntriesVeiled
import Derived.BigQuiet
import Derived.Deep.QuietTactic
import Derived.Test.YtdfkdgnhpdgphaaGreatDoorSkw1
namespace Go.Proofs.YtdfkdgnhpdgphaaGreatDoor
open Go.RowKit Go.Proofs.Lig

section
variable {O : Nat → Prop} {w w' : World} {s : Nat} {p : StoP} {d : StoD}
set_option maxRecDepth 100000 in
theorem StoA.c0 (h : StoA O w s p d) : w.cell? ⟨s, 0, none⟩ = some (pt p.C) := h.blk.cell 0
theorem StoA.c1 (h : StoA O w s p d) : w.cell? ⟨s, 1, none⟩ = some (.slice p.nA d.ns.length p.nc) := h.blk.cell 1
theorem StoA.c2 (h : StoA O w s p d) : w.cell? ⟨s, 2, none⟩ = some (.slice p.eA d.es.length p.ec) := h.blk.cell 2
set_option maxRecDepth 100000 in
theorem StoA.c3 (h : StoA O w s p d) : w.cell? ⟨s, 3, none⟩ = some (.slice p.dA d.ends.length p.dc) := h.blk.cell 3
theorem StoA.c4 (h : StoA O w s p d) : w.cell? ⟨s, 4, none⟩ = some (pt p.o) := h.blk.cell 4
theorem StoA.c5 (h : StoA O w s p d) : w.cell? ⟨s, 5, none⟩ = some (pt p.i) := h.blk.cell 5
set_option maxRecDepth 100000 in
theorem StoA.c7 (h : StoA O w s p d) : w.cell? ⟨s, 7, none⟩ = some (.slice p.tA d.ns.length p.tc) := h.blk.cell 7
/-- A row with an element has a block; the element is there. -/
theorem OwnO.get {e : TypeId} {A : Option Addr} {n cap : Nat} {cs : List Value} (h : OwnO O w e 1 A n cap cs) {i : Nat} {v : Value} (hi : cs[i]? = some v) : ∃ g, A = some ⟨g, 0, none⟩ ∧ w.cell? ⟨g, i, none⟩ = some v ∧ g < w.heap.size ∧ O g ∧ (i < n ∧ n ≤ 9223372036854775807) ∧ w.frozen? ⟨g, i, none⟩ = false ∧ ∃ cur, w.heap[g]? = some (.cells cur e (0, 0)) := by
  have hl : i < n := by
    have h1 := (List.getElem?_eq_some_iff.1 hi).1
    have h2 : cs.length = n * 1 := h.own.1
    omega
  rcases h.own.2 with ⟨hv, h0⟩ | ⟨g, cap', cur, hv, _, hh, r1, r2, r⟩
  · omega
  · injection hv with e1 _ e3
    subst e1 e3
    refine ⟨g, rfl, (h.own.cellAt i (by omega)).trans hi, (Array.getElem?_eq_some_iff.1 hh).1, h.at_ g rfl, ⟨hl, by unfold maxLen at r2; omega⟩, by simp [World.frozen?, hh], cur, hh⟩

set_option maxRecDepth 100000 in
theorem sto_isLive (h : StoA O w s p d) (t : Int) (v : Bool) (hv : d.c.live t = v) :
    Calls Tryz.prog 201 #[pt s, .int .i64 t] w fun e w' => e = .returned (.bool v) ∧ w = w' := by
  obtain ⟨S, hc, _⟩ := h.clk
  have HL := hid (live_S w p.C S d.c t hc v hv)
  have c0 := h.c0
  clear h hc
  go_enter Tryz.func201, Tryz.ntmps201
  go_wp2_with fail
  refine HL.out.mono ?_
  rintro e w1 ⟨rfl, rfl⟩
  go_wp2_with fail
  go_ret
  exact ⟨rfl, rfl⟩
set_option maxRecDepth 100000 in
theorem sto_node (h : StoA O w s p d) (id : Int) (X : Nat) (h1 : 1 ≤ id) (hX : p.Xs[id.toNat - 1]? = some X) :
    Calls Tryz.prog 157 #[pt s, .int .i64 id] w fun e w' => e = .returned (pt X) ∧ w = w' := by
  have c1 := h.c1
  obtain ⟨g, hg, hc, hl, _, ⟨hi, hmx⟩, _⟩ := h.nrow.get (i := id.toNat - 1) (v := pt X) (by rw [List.getElem?_map, hX]; rfl)
  obtain ⟨k, rfl⟩ : ∃ k : Nat, id = (k : Int) + 1 := ⟨id.toNat - 1, by omega⟩
  have e : ((k : Int) + 1).toNat - 1 = k := by omega
  rw [e] at hc hi
  rw [hg] at c1
  have hkn : (k : Int) < (d.ns.length : Int) := by omega
  have hkI : (0 : Int) ≤ (k : Int) := by omega
  have hkm : (k : Int) + 1 ≤ (d.ns.length : Int) := by omega
  obtain ⟨n, hn⟩ : ∃ n, d.ns.length = n := ⟨_, rfl⟩
  rw [hn] at c1 hkn hkm hi hmx
  have hkk : (k : Int) ≤ 9223372036854775806 := by omega
  clear h hX h1 e hn
  go_enter Tryz.func157, Tryz.ntmps157
  go_wp2
  go_ret
  exact ⟨rfl, rfl⟩
set_option maxRecDepth 100000 in
theorem sto_edge0 : Calls Tryz.prog 150 #[pt s, .int .i64 0] w fun e w' => e = .returned (.pointer none) ∧ w = w' := by
  go_enter Tryz.func150, Tryz.ntmps150
  go_wp2
  go_ret
  exact ⟨rfl, rfl⟩
set_option maxRecDepth 100000 in
theorem sto_edge (h : StoA O w s p d) (id : Int) (X : Nat) (h1 : 1 ≤ id) (hX : p.Ys[id.toNat - 1]? = some X) :
    Calls Tryz.prog 150 #[pt s, .int .i64 id] w fun e w' => e = .returned (pt X) ∧ w = w' := by
  have c1 := h.c2
  obtain ⟨g, hg, hc, hl, _, ⟨hi, hmx⟩, _⟩ := h.erow.get (i := id.toNat - 1) (v := pt X) (by rw [List.getElem?_map, hX]; rfl)
  obtain ⟨k, rfl⟩ : ∃ k : Nat, id = (k : Int) + 1 := ⟨id.toNat - 1, by omega⟩
  have e : ((k : Int) + 1).toNat - 1 = k := by omega
  rw [e] at hc hi
  rw [hg] at c1
  have hkn : (k : Int) < (d.es.length : Int) := by omega
  have hkI : (0 : Int) ≤ (k : Int) := by omega
  have hkm : (k : Int) + 1 ≤ (d.es.length : Int) := by omega
  obtain ⟨n, hn⟩ : ∃ n, d.es.length = n := ⟨_, rfl⟩
  rw [hn] at c1 hkn hkm hi hmx
  have hkk : (k : Int) ≤ 9223372036854775806 := by omega
  clear h hX h1 e hn
  go_enter Tryz.func150, Tryz.ntmps150
  go_wp2
  go_ret
  exact ⟨rfl, rfl⟩
set_option maxRecDepth 100000 in
theorem clone_strs_nil (w : World) : Calls Tryz.prog 162 #[.slice none 0 0] w fun e w' => e = .returned (.slice none 0 0) ∧ w = w' := by
  have hq := fun W => Lib.run_eql_slice_nil (P := Tryz.prog) W 32 9 none 0 0 0 0 Tryz.underlying32
  go_enter Tryz.func162, Tryz.ntmps162
  go_wp2
  go_ret
  exact ⟨rfl, rfl⟩
set_option maxRecDepth 100000 in
theorem clone_props_nil (w : World) : Calls Tryz.prog 163 #[.slice none 0 0] w fun e w' => e = .returned (.slice none 0 0) ∧ w = w' := by
  have hq := fun W => Lib.run_eql_slice_nil (P := Tryz.prog) W 33 140 none 0 0 0 0 Tryz.underlying33
  go_enter Tryz.func163, Tryz.ntmps163
  go_wp2
  go_ret
  exact ⟨rfl, rfl⟩
set_option maxRecDepth 100000 in
theorem res_agg {P : Program} {fn : Func} {p : Tmp} {ty : TypeId} (h : fn.results = #[.cell p ty]) (tmps : Array Value) (w : World) (g : Nat) (t : TypeId) (vs : List Value) (d : TypeDesc) (hb : Blk w g t vs) (hp : tmps.getD p undef = .pointer (some ⟨g, 0, none⟩))
    (hu : P.underlying ty = some d) (hd : d.isRow = true) (hi : (P.info? ty).map (·.size) = some vs.length) :
    (results fn tmps).run P w = .ok (.agg vs.toArray) w := by
  unfold results
  rw [h]
  simp only [Array.getD_eq_getD_getElem?] at hp
  simp [hp, asAddr, run_loadVar_mid w g 0 ty vs d hb.range hu hd hi]
set_option maxRecDepth 100000 in
theorem size_node : (Tryz.prog.info? 35).map (·.size) = some ([.slice none 0 0, .slice none 0 0] : List Value).length := by kernel_rfl
abbrev nodVal : Value := .agg #[.slice none 0 0, .slice none 0 0]
theorem sto_copied (w : World) : Calls Tryz.prog 90 #[nodVal] w fun e w' => e = .returned nodVal ∧ Below w.heap.size w w' := by
  go_enter Tryz.func90, Tryz.ntmps90
  go_wp2
  go_region_held3 (fun W => W.cell? ⟨w.heap.size, 0, none⟩ = some (.slice none 0 0) ∧ W.cell? ⟨w.heap.size, 1, none⟩ = some (.slice none 0 0))
    (first
      | exact ⟨((Blk.new w 35 [.slice none 0 0, .slice none 0 0]).alloc _).cell 0, ((Blk.new w 35 [.slice none 0 0, .slice none 0 0]).alloc _).cell 1⟩
      | go_keep)
    (first
      | (go_at_call 162; refine (clone_strs_nil _).mono ?_; rintro e w1 ⟨rfl, rfl⟩)
      | (go_at_call 163; refine (clone_props_nil _).mono ?_; rintro e w1 ⟨rfl, rfl⟩))
  go_wp2
  have hb := (Blk.new (w.alloc (.cells #[.slice none 0 0, .slice none 0 0] 35)) 35 [.slice none 0 0, .slice none 0 0]).drewN 1
  rw [World.size_alloc] at hb
  exact bodyPost_ret (res_agg rfl _ _ _ _ [.slice none 0 0, .slice none 0 0] _ hb rfl Tryz.underlying35 rfl size_node) rfl ⟨rfl, bdrewN (((Below.refl _ w).alloc (Nat.le_refl _) _).alloc (by simp) _) 1⟩
set_option maxRecDepth 100000 in
theorem info_node : (Tryz.prog.info? 35).map (fun i => (i.zero, i.size, i.bytes)) = some (some nodVal, 2, 48) := by kernel_rfl
/-- A node without anything is read as itself, or as nothing. -/
theorem nod_val {v : NodV} (h : v = e0) : (.agg #[.slice v.la v.ln v.lc, .slice v.pa v.pn v.pc] : Value) = nodVal := by subst h; rfl
set_option maxRecDepth 100000 in
theorem bare_getD {l : List (Ver NodV)} (hb : ∀ y ∈ l, y.v = e0) (f : Int → Bool) : (Cel.lastBy f l).getD ⟨none, 0, 0, none, 0, 0⟩ = e0 := by
  unfold Cel.lastBy
  cases hf : l.reverse.find? (fun y => f y.who) with
  | none => rfl
  | some y =>
    have hm : y ∈ l := by simpa using List.mem_of_find?_eq_some hf
    simp only
    split
    · rfl
    · exact hb y hm
set_option maxRecDepth 100000 in
/-- What is read of a cell of the store's: nothing but whether it is there. -/
theorem nod_read (h : StoA O w s p d) {X : Nat} {S : List Nat} {l : List (Ver NodV)} (hX : Nod.CelS w X S l) (hb : ∀ y ∈ l, y.v = e0) (t : Int) (ok : Bool) (hok : (Cel.lastBy (d.c.sees t) l).isSome = ok) :
    Calls Tryz.prog 205 #[pt X, pt p.C, .int .i64 t] w fun e w' => e = .returned (.tuple #[nodVal, .bool ok]) ∧ Below w.heap.size w w' := by
  obtain ⟨SC, hc, _⟩ := h.clk
  obtain ⟨A, cap, hX, _⟩ := hX
  exact Nod.read_S w X A cap l p.C SC d.c t hX hc h.good e0 ok (bare_getD hb _) hok
set_option maxRecDepth 100000 in
theorem nod_last (h : StoA O w s p d) {X : Nat} {S : List Nat} {l : List (Ver NodV)} (hX : Nod.CelS w X S l) (hb : ∀ y ∈ l, y.v = e0) (ok : Bool) (hok : (Cel.lastBy (Nod.doneBy d.c) l).isSome = ok) :
    Calls Tryz.prog 34 #[pt X, pt p.C] w fun e w' => e = .returned (.tuple #[nodVal, .bool ok]) ∧ Below w.heap.size w w' := by
  obtain ⟨SC, hc, _⟩ := h.clk
  obtain ⟨A, cap, hX, _⟩ := hX
  exact Nod.last_S w X A cap l p.C SC d.c hX hc e0 ok (bare_getD hb _) hok
set_option maxRecDepth 100000 in
theorem StoA.drewN (h : StoA O w s p d) (n : Nat) : StoA O (w.drewN n) s p d := h.below (below_drewN' w n)
/-- A node by its number. -/
theorem StoA.nodeAt (h : StoA O w s p d) (id : Int) (_h1 : 1 ≤ id) (l : List (Ver NodV)) (hl : d.ns[id.toNat - 1]? = some l) : ∃ X S, p.Xs[id.toNat - 1]? = some X ∧ Nod.CelS w X S l ∧ (∀ y ∈ l, y.v = e0) := by
  obtain ⟨X, S, h2, h3, _⟩ := h.onNode hl
  exact ⟨X, S, h2, h3, h.bare l (List.mem_of_getElem? hl)⟩
set_option maxRecDepth 100000 in
theorem sto_reads (h : StoA O w s p d) (t id : Int) (h1 : 1 ≤ id) (l : List (Ver NodV)) (hl : d.ns[id.toNat - 1]? = some l) (ok : Bool) (hok : (Cel.lastBy (d.c.sees t) l).isSome = ok) :
    Calls Tryz.prog 215 #[pt s, .int .i64 t, .int .i64 id] w fun e w' => e = .returned (.bool ok) ∧ Below w.heap.size w w' := by
  obtain ⟨X, S, hX, hC, hb⟩ := h.nodeAt id h1 l hl
  have HN := hid (fun W (hW : Below w.heap.size w W) => sto_node (h.below hW) id X h1 hX)
  have HR := hid (fun W (hW : Below w.heap.size w W) => nod_read (h.below hW) (hC.tfr (ts := []) (.of_below hW) (by simp)) hb t ok hok)
  have B1 := below_drewN' w 1
  have B2 := hid (B1.alloc (o := .cells #[.slice none 0 0, .slice none 0 0] 35) (by simp))
  have c0 := h.c0
  have hlt := h.blk.lt
  clear h hX hC hb hok hl h1
  go_enter Tryz.func215, Tryz.ntmps215
  go_wp2
  -- REGION reads
  refine wp_region_held_drew (S := fun W => W.cell? ⟨s, 0, none⟩ = some (pt p.C)) (by kernel_rfl) c0 (fun hHeld => ?_)
  refine wpAnyH_take (i := 0) (oi := { dst := some 10, op := Op.move (Operand.tmp 0), type := 56, pos := "store.go:233", after := #[], guard := none }) (v := ?_) rfl (by kernel_rfl) (by kernel_rfl) (by kernel_rfl) (fun _ _ _ h => h) (Or.inl ⟨by rfl, ?_⟩) hHeld ?_
  rotate_left
  · (intro W1 hSw; (try dsimp only at hSw); go_simp; first | done | (with_reducible rfl))
  try simp only [Act.put, List.setIfInBounds_toArray, List.set_cons_zero, List.set_cons_succ]
  refine wpAnyH_take (i := 1) (oi := { dst := some 11, op := Op.move (Operand.tmp 2), type := 3, pos := "store.go:233", after := #[], guard := none }) (v := ?_) rfl (by kernel_rfl) (by kernel_rfl) (by kernel_rfl) (fun _ _ _ h => h) (Or.inl ⟨by rfl, ?_⟩) hHeld ?_
  rotate_left
  · (intro W1 hSw; (try dsimp only at hSw); go_simp; first | done | (with_reducible rfl))
  try simp only [Act.put, List.setIfInBounds_toArray, List.set_cons_zero, List.set_cons_succ]
  refine wpAnyH_take (i := 3) (oi := { dst := some 13, op := Op.move (Operand.tmp 0), type := 56, pos := "store.go:233", after := #[], guard := none }) (v := ?_) rfl (by kernel_rfl) (by kernel_rfl) (by kernel_rfl) (fun _ _ _ h => h) (Or.inl ⟨by rfl, ?_⟩) hHeld ?_
  rotate_left
  · (intro W1 hSw; (try dsimp only at hSw); go_simp; first | done | (with_reducible rfl))
  try simp only [Act.put, List.setIfInBounds_toArray, List.set_cons_zero, List.set_cons_succ]
  refine wpAnyH_take (i := 4) (oi := { dst := some 14, op := Op.nilCheck (Operand.tmp 13), type := 0, pos := "store.go:233", after := #[{ on := 3, ground := Ground.data }], guard := none }) (v := ?_) rfl (by kernel_rfl) (by kernel_rfl) (by kernel_rfl) (fun _ _ _ h => h) (Or.inl ⟨by rfl, ?_⟩) hHeld ?_
  rotate_left
  · (intro W1 hSw; (try dsimp only at hSw); go_simp; first | done | (with_reducible rfl))
  try simp only [Act.put, List.setIfInBounds_toArray, List.set_cons_zero, List.set_cons_succ]
  refine wpAnyH_take (i := 5) (oi := { dst := some 15, op := Op.fieldAddr 99 (Operand.tmp 14) 0, type := 0, pos := "store.go:233", after := #[{ on := 4, ground := Ground.data }], guard := none }) (v := ?_) rfl (by kernel_rfl) (by kernel_rfl) (by kernel_rfl) (fun _ _ _ h => h) (Or.inl ⟨by rfl, ?_⟩) hHeld ?_
  rotate_left
  · (intro W1 hSw; (try dsimp only at hSw); go_simp; first | done | (with_reducible rfl))
  try simp only [Act.put, List.setIfInBounds_toArray, List.set_cons_zero, List.set_cons_succ]
  refine wpAnyH_take (i := 6) (oi := { dst := some 16, op := Op.load 91 (Operand.tmp 15), type := 91, pos := "store.go:233", after := #[{ on := 5, ground := Ground.data }], guard := none }) (v := ?_) rfl (by kernel_rfl) (by kernel_rfl) (by kernel_rfl) (fun _ _ _ h => h) (Or.inl ⟨by rfl, ?_⟩) hHeld ?_
  rotate_left
  · (intro W1 hSw; (try dsimp only at hSw); go_simp; first | done | (with_reducible rfl))
  try simp only [Act.put, List.setIfInBounds_toArray, List.set_cons_zero, List.set_cons_succ]
  refine wpAnyH_take (i := 7) (oi := { dst := some 17, op := Op.move (Operand.tmp 1), type := 3, pos := "store.go:233", after := #[], guard := none }) (v := ?_) rfl (by kernel_rfl) (by kernel_rfl) (by kernel_rfl) (fun _ _ _ h => h) (Or.inl ⟨by rfl, ?_⟩) hHeld ?_
  rotate_left
  · (intro W1 hSw; (try dsimp only at hSw); go_simp; first | done | (with_reducible rfl))
  try simp only [Act.put, List.setIfInBounds_toArray, List.set_cons_zero, List.set_cons_succ]
  refine wpAnyH_ready (rs := [2, 12]) (by kernel_rfl) (by simp) ?_
  refine AllReadyH.cons (o := { dst := some 12, op := Op.call { callee := Callee.value (Operand.func 157), args := #[Operand.tmp 10, Operand.tmp 11], argTypes := #[56, 3] }, type := 88, pos := "store.go:233", after := #[{ on := 0, ground := Ground.data }, { on := 1, ground := Ground.data }], guard := none }) rfl (fun K hK => ?_) (AllReadyH.cons (o := { dst := some 7, op := Op.alloc 35, type := 0, pos := "store.go:233", after := #[], guard := none }) rfl (fun K hK => ?_) AllReadyH.nil)
  · rw [if_pos (by rfl)]
    go_simp
    go_at_call 157
    refine (HN.out _ B1).mono ?_
    rintro e wn ⟨rfl, rfl⟩
    refine hK.out _ _ hHeld (fun hHeld => ?_)
    clear hK K
    try simp only [Act.put, List.setIfInBounds_toArray, List.set_cons_zero, List.set_cons_succ]
    refine wpAnyH_ready (rs := [8, 12]) (by kernel_rfl) (by simp) ?_
    refine AllReadyH.cons (o := { dst := some 18, op := Op.call { callee := Callee.value (Operand.func 205), args := #[Operand.tmp 12, Operand.tmp 16, Operand.tmp 17], argTypes := #[88, 91, 3] }, type := 89, pos := "store.go:233", after := #[{ on := 2, ground := Ground.data }, { on := 6, ground := Ground.data }, { on := 7, ground := Ground.data }, { on := 2, ground := Ground.chain }], guard := none }) rfl (fun K hK => ?_) (AllReadyH.cons (o := { dst := some 7, op := Op.alloc 35, type := 0, pos := "store.go:233", after := #[], guard := none }) rfl (fun K hK => ?_) AllReadyH.nil)
    · rw [if_pos (by rfl)]
      go_simp
      go_at_call 205
      refine (HR.out _ B1).mono ?_
      rintro e w1 ⟨rfl, b1⟩
      refine hK.out _ _ ((b1.cell (p := ⟨s, 0, none⟩) hlt).trans c0) (fun hHeld => ?_)
      clear hK K
      try simp only [Act.put, List.setIfInBounds_toArray, List.set_cons_zero, List.set_cons_succ]
      refine wpAnyH_take (i := 9) (oi := { dst := some 9, op := Op.move (Operand.tmp 18), type := 89, pos := "store.go:233", after := #[{ on := 8, ground := Ground.data }], guard := none }) (v := ?_) rfl (by kernel_rfl) (by kernel_rfl) (by kernel_rfl) (fun _ _ _ h => h) (Or.inl ⟨by rfl, ?_⟩) hHeld ?_
      rotate_left
      · (intro W1 hSw; (try dsimp only at hSw); go_simp; first | done | (with_reducible rfl))
      try simp only [Act.put, List.setIfInBounds_toArray, List.set_cons_zero, List.set_cons_succ]
      refine wpAnyH_take (i := 10) (oi := { dst := some 19, op := Op.extract (Operand.tmp 9) 0, type := 35, pos := "store.go:233", after := #[{ on := 9, ground := Ground.data }], guard := none }) (v := ?_) rfl (by kernel_rfl) (by kernel_rfl) (by kernel_rfl) (fun _ _ _ h => h) (Or.inl ⟨by rfl, ?_⟩) hHeld ?_
      rotate_left
      · (intro W1 hSw; (try dsimp only at hSw); go_simp; first | done | (with_reducible rfl))
      try simp only [Act.put, List.setIfInBounds_toArray, List.set_cons_zero, List.set_cons_succ]
      refine wpAnyH_take (i := 11) (oi := { dst := some 20, op := Op.extract (Operand.tmp 9) 1, type := 4, pos := "store.go:233", after := #[{ on := 9, ground := Ground.data }, { on := 13, ground := Ground.gcOnly Departure.lateStores }], guard := none }) (v := ?_) rfl (by kernel_rfl) (by kernel_rfl) (by kernel_rfl) (fun _ _ _ h => h) (Or.inl ⟨by rfl, ?_⟩) hHeld ?_
      rotate_left
      · (intro W1 hSw; (try dsimp only at hSw); go_simp; first | done | (with_reducible rfl))
      try simp only [Act.put, List.setIfInBounds_toArray, List.set_cons_zero, List.set_cons_succ]
      refine wpAnyH_ready (rs := [12]) (by kernel_rfl) (by simp) ?_
      refine AllReadyH.cons (o := { dst := some 7, op := Op.alloc 35, type := 0, pos := "store.go:233", after := #[], guard := none }) rfl (fun K hK => ?_) AllReadyH.nil
      rw [if_pos (by rfl)]
      go_simp
      refine hK.out _ _ (((b1.alloc (o := (.cells #[.slice none 0 0, .slice none 0 0] 35)) b1.size).cell (p := ⟨s, 0, none⟩) hlt).trans c0) (fun hHeld => ?_)
      clear hK K
      try simp only [Act.put, List.setIfInBounds_toArray, List.set_cons_zero, List.set_cons_succ]
      refine wpAnyH_ready (rs := [13]) (by kernel_rfl) (by simp) ?_
      refine AllReadyH.cons (o := { dst := none, op := Op.store 35 (Operand.tmp 7) (Operand.tmp 19), type := 0, pos := "store.go:233", after := #[{ on := 12, ground := Ground.data }, { on := 10, ground := Ground.data }, { on := 8, ground := Ground.chain }, { on := 0, ground := Ground.phase }, { on := 1, ground := Ground.phase }, { on := 2, ground := Ground.phase }, { on := 3, ground := Ground.phase }, { on := 4, ground := Ground.phase }, { on := 5, ground := Ground.phase }, { on := 6, ground := Ground.phase }, { on := 7, ground := Ground.phase }, { on := 8, ground := Ground.phase }, { on := 9, ground := Ground.phase }, { on := 10, ground := Ground.phase }, { on := 11, ground := Ground.textOnly Departure.lateStores }, { on := 12, ground := Ground.phase }], guard := none }) rfl (fun K hK => ?_) AllReadyH.nil
      rw [if_pos (by rfl)]
      have B3 := (bstep B1 (Nat.le_refl _) b1).alloc (o := (.cells #[.slice none 0 0, .slice none 0 0] 35)) (by have := b1.size; simpa using this)
      go_simp
      refine hK.out _ _ ((B3.cell (p := ⟨s, 0, none⟩) hlt).trans c0) (fun hHeld => ?_)
      clear hK K
      try simp only [Act.put, List.setIfInBounds_toArray, List.set_cons_zero, List.set_cons_succ]
      refine wpAnyH_take (i := 14) (oi := { dst := some 8, op := Op.assign (Operand.tmp 20), type := 4, pos := "store.go:233", after := #[{ on := 11, ground := Ground.data }, { on := 13, ground := Ground.chain }, { on := 0, ground := Ground.phase }, { on := 1, ground := Ground.phase }, { on := 2, ground := Ground.phase }, { on := 3, ground := Ground.phase }, { on := 4, ground := Ground.phase }, { on := 5, ground := Ground.phase }, { on := 6, ground := Ground.phase }, { on := 7, ground := Ground.phase }, { on := 8, ground := Ground.phase }, { on := 9, ground := Ground.phase }, { on := 10, ground := Ground.phase }, { on := 11, ground := Ground.phase }, { on := 12, ground := Ground.phase }, { on := 13, ground := Ground.phase }], guard := none }) (v := ?_) rfl (by kernel_rfl) (by kernel_rfl) (by kernel_rfl) (fun _ _ _ h => h) (Or.inl ⟨by rfl, ?_⟩) hHeld ?_
      rotate_left
      · (intro W1 hSw; (try dsimp only at hSw); go_simp; first | done | (with_reducible rfl))
      try simp only [Act.put, List.setIfInBounds_toArray, List.set_cons_zero, List.set_cons_succ]
      refine wpAnyH_done (by kernel_rfl) ?_ _
      go_wp2
      go_ret
      exact ⟨rfl, B3⟩
    · rw [if_pos (by rfl)]
      go_simp
      refine hK.out _ _ ((B2.out.cell (p := ⟨s, 0, none⟩) hlt).trans c0) (fun hHeld => ?_)
      clear hK K
      try simp only [Act.put, List.setIfInBounds_toArray, List.set_cons_zero, List.set_cons_succ]
      refine wpAnyH_ready (rs := [8]) (by kernel_rfl) (by simp) ?_
      refine AllReadyH.cons (o := { dst := some 18, op := Op.call { callee := Callee.value (Operand.func 205), args := #[Operand.tmp 12, Operand.tmp 16, Operand.tmp 17], argTypes := #[88, 91, 3] }, type := 89, pos := "store.go:233", after := #[{ on := 2, ground := Ground.data }, { on := 6, ground := Ground.data }, { on := 7, ground := Ground.data }, { on := 2, ground := Ground.chain }], guard := none }) rfl (fun K hK => ?_) AllReadyH.nil
      rw [if_pos (by rfl)]
      go_simp
      go_at_call 205
      refine (HR.out _ B2.out).mono ?_
      rintro e w1 ⟨rfl, b1⟩
      have HA1 := hid ((Blk.new w.drew 35 [.slice none 0 0, .slice none 0 0]).below b1 (by simp))
      refine hK.out _ _ ((b1.cell (p := ⟨s, 0, none⟩) (Nat.lt_of_lt_of_le hlt B2.out.size)).trans ((B2.out.cell (p := ⟨s, 0, none⟩) hlt).trans c0)) (fun hHeld => ?_)
      clear hK K
      try simp only [Act.put, List.setIfInBounds_toArray, List.set_cons_zero, List.set_cons_succ]
      refine wpAnyH_take (i := 9) (oi := { dst := some 9, op := Op.move (Operand.tmp 18), type := 89, pos := "store.go:233", after := #[{ on := 8, ground := Ground.data }], guard := none }) (v := ?_) rfl (by kernel_rfl) (by kernel_rfl) (by kernel_rfl) (fun _ _ _ h => h) (Or.inl ⟨by rfl, ?_⟩) hHeld ?_
      rotate_left
      · (intro W1 hSw; (try dsimp only at hSw); go_simp; first | done | (with_reducible rfl))
      try simp only [Act.put, List.setIfInBounds_toArray, List.set_cons_zero, List.set_cons_succ]
      refine wpAnyH_take (i := 10) (oi := { dst := some 19, op := Op.extract (Operand.tmp 9) 0, type := 35, pos := "store.go:233", after := #[{ on := 9, ground := Ground.data }], guard := none }) (v := ?_) rfl (by kernel_rfl) (by kernel_rfl) (by kernel_rfl) (fun _ _ _ h => h) (Or.inl ⟨by rfl, ?_⟩) hHeld ?_
      rotate_left
      · (intro W1 hSw; (try dsimp only at hSw); go_simp; first | done | (with_reducible rfl))
      try simp only [Act.put, List.setIfInBounds_toArray, List.set_cons_zero, List.set_cons_succ]
      refine wpAnyH_take (i := 11) (oi := { dst := some 20, op := Op.extract (Operand.tmp 9) 1, type := 4, pos := "store.go:233", after := #[{ on := 9, ground := Ground.data }, { on := 13, ground := Ground.gcOnly Departure.lateStores }], guard := none }) (v := ?_) rfl (by kernel_rfl) (by kernel_rfl) (by kernel_rfl) (fun _ _ _ h => h) (Or.inl ⟨by rfl, ?_⟩) hHeld ?_
      rotate_left
      · (intro W1 hSw; (try dsimp only at hSw); go_simp; first | done | (with_reducible rfl))
      try simp only [Act.put, List.setIfInBounds_toArray, List.set_cons_zero, List.set_cons_succ]
      refine wpAnyH_ready (rs := [13]) (by kernel_rfl) (by simp) ?_
      refine AllReadyH.cons (o := { dst := none, op := Op.store 35 (Operand.tmp 7) (Operand.tmp 19), type := 0, pos := "store.go:233", after := #[{ on := 12, ground := Ground.data }, { on := 10, ground := Ground.data }, { on := 8, ground := Ground.chain }, { on := 0, ground := Ground.phase }, { on := 1, ground := Ground.phase }, { on := 2, ground := Ground.phase }, { on := 3, ground := Ground.phase }, { on := 4, ground := Ground.phase }, { on := 5, ground := Ground.phase }, { on := 6, ground := Ground.phase }, { on := 7, ground := Ground.phase }, { on := 8, ground := Ground.phase }, { on := 9, ground := Ground.phase }, { on := 10, ground := Ground.phase }, { on := 11, ground := Ground.textOnly Departure.lateStores }, { on := 12, ground := Ground.phase }], guard := none }) rfl (fun K hK => ?_) AllReadyH.nil
      rw [if_pos (by rfl)]
      have a0 : w1.cell? ⟨w.heap.size, 0, none⟩ = some (.slice none 0 0) := HA1.out.cell 0
      have a1 : w1.cell? ⟨w.heap.size, 1, none⟩ = some (.slice none 0 0) := HA1.out.cell 1
      have f0 : w1.frozen? ⟨w.heap.size, 0, none⟩ = false := HA1.out.frozen 0
      have f1 : w1.frozen? ⟨w.heap.size, 1, none⟩ = false := HA1.out.frozen 1
      have hwl : w.heap.size < w1.heap.size := HA1.out.lt
      have B3 := ((bstep B2.out (Nat.le_refl _) b1).setCell (p := ⟨w.heap.size, 0, none⟩) (Nat.le_refl _) (.slice none 0 0)).setCell (p := ⟨w.heap.size, 1, none⟩) (Nat.le_refl _) (.slice none 0 0)
      go_simp
      refine hK.out _ _ ((B3.cell (p := ⟨s, 0, none⟩) hlt).trans c0) (fun hHeld => ?_)
      clear hK K
      try simp only [Act.put, List.setIfInBounds_toArray, List.set_cons_zero, List.set_cons_succ]
      refine wpAnyH_take (i := 14) (oi := { dst := some 8, op := Op.assign (Operand.tmp 20), type := 4, pos := "store.go:233", after := #[{ on := 11, ground := Ground.data }, { on := 13, ground := Ground.chain }, { on := 0, ground := Ground.phase }, { on := 1, ground := Ground.phase }, { on := 2, ground := Ground.phase }, { on := 3, ground := Ground.phase }, { on := 4, ground := Ground.phase }, { on := 5, ground := Ground.phase }, { on := 6, ground := Ground.phase }, { on := 7, ground := Ground.phase }, { on := 8, ground := Ground.phase }, { on := 9, ground := Ground.phase }, { on := 10, ground := Ground.phase }, { on := 11, ground := Ground.phase }, { on := 12, ground := Ground.phase }, { on := 13, ground := Ground.phase }], guard := none }) (v := ?_) rfl (by kernel_rfl) (by kernel_rfl) (by kernel_rfl) (fun _ _ _ h => h) (Or.inl ⟨by rfl, ?_⟩) hHeld ?_
      rotate_left
      · (intro W1 hSw; (try dsimp only at hSw); go_simp; first | done | (with_reducible rfl))
      try simp only [Act.put, List.setIfInBounds_toArray, List.set_cons_zero, List.set_cons_succ]
      refine wpAnyH_done (by kernel_rfl) ?_ _
      go_wp2
      go_ret
      exact ⟨rfl, B3⟩
  · rw [if_pos (by rfl)]
    go_simp
    refine hK.out _ _ ((B2.out.cell (p := ⟨s, 0, none⟩) hlt).trans c0) (fun hHeld => ?_)
    clear hK K
    try simp only [Act.put, List.setIfInBounds_toArray, List.set_cons_zero, List.set_cons_succ]
    refine wpAnyH_ready (rs := [2]) (by kernel_rfl) (by simp) ?_
    refine AllReadyH.cons (o := { dst := some 12, op := Op.call { callee := Callee.value (Operand.func 157), args := #[Operand.tmp 10, Operand.tmp 11], argTypes := #[56, 3] }, type := 88, pos := "store.go:233", after := #[{ on := 0, ground := Ground.data }, { on := 1, ground := Ground.data }], guard := none }) rfl (fun K hK => ?_) AllReadyH.nil
    rw [if_pos (by rfl)]
    go_simp
    go_at_call 157
    refine (HN.out _ B2.out).mono ?_
    rintro e wn ⟨rfl, rfl⟩
    refine hK.out _ _ hHeld (fun hHeld => ?_)
    clear hK K
    try simp only [Act.put, List.setIfInBounds_toArray, List.set_cons_zero, List.set_cons_succ]
    refine wpAnyH_ready (rs := [8]) (by kernel_rfl) (by simp) ?_
    refine AllReadyH.cons (o := { dst := some 18, op := Op.call { callee := Callee.value (Operand.func 205), args := #[Operand.tmp 12, Operand.tmp 16, Operand.tmp 17], argTypes := #[88, 91, 3] }, type := 89, pos := "store.go:233", after := #[{ on := 2, ground := Ground.data }, { on := 6, ground := Ground.data }, { on := 7, ground := Ground.data }, { on := 2, ground := Ground.chain }], guard := none }) rfl (fun K hK => ?_) AllReadyH.nil
    rw [if_pos (by rfl)]
    go_simp
    go_at_call 205
    refine (HR.out _ B2.out).mono ?_
    rintro e w1 ⟨rfl, b1⟩
    have HA1 := hid ((Blk.new w.drew 35 [.slice none 0 0, .slice none 0 0]).below b1 (by simp))
    refine hK.out _ _ ((b1.cell (p := ⟨s, 0, none⟩) (Nat.lt_of_lt_of_le hlt B2.out.size)).trans ((B2.out.cell (p := ⟨s, 0, none⟩) hlt).trans c0)) (fun hHeld => ?_)
    clear hK K
    try simp only [Act.put, List.setIfInBounds_toArray, List.set_cons_zero, List.set_cons_succ]
    refine wpAnyH_take (i := 9) (oi := { dst := some 9, op := Op.move (Operand.tmp 18), type := 89, pos := "store.go:233", after := #[{ on := 8, ground := Ground.data }], guard := none }) (v := ?_) rfl (by kernel_rfl) (by kernel_rfl) (by kernel_rfl) (fun _ _ _ h => h) (Or.inl ⟨by rfl, ?_⟩) hHeld ?_
    rotate_left
    · (intro W1 hSw; (try dsimp only at hSw); go_simp; first | done | (with_reducible rfl))
    try simp only [Act.put, List.setIfInBounds_toArray, List.set_cons_zero, List.set_cons_succ]
    refine wpAnyH_take (i := 10) (oi := { dst := some 19, op := Op.extract (Operand.tmp 9) 0, type := 35, pos := "store.go:233", after := #[{ on := 9, ground := Ground.data }], guard := none }) (v := ?_) rfl (by kernel_rfl) (by kernel_rfl) (by kernel_rfl) (fun _ _ _ h => h) (Or.inl ⟨by rfl, ?_⟩) hHeld ?_
    rotate_left
    · (intro W1 hSw; (try dsimp only at hSw); go_simp; first | done | (with_reducible rfl))
    try simp only [Act.put, List.setIfInBounds_toArray, List.set_cons_zero, List.set_cons_succ]
    refine wpAnyH_take (i := 11) (oi := { dst := some 20, op := Op.extract (Operand.tmp 9) 1, type := 4, pos := "store.go:233", after := #[{ on := 9, ground := Ground.data }, { on := 13, ground := Ground.gcOnly Departure.lateStores }], guard := none }) (v := ?_) rfl (by kernel_rfl) (by kernel_rfl) (by kernel_rfl) (fun _ _ _ h => h) (Or.inl ⟨by rfl, ?_⟩) hHeld ?_
    rotate_left
    · (intro W1 hSw; (try dsimp only at hSw); go_simp; first | done | (with_reducible rfl))
    try simp only [Act.put, List.setIfInBounds_toArray, List.set_cons_zero, List.set_cons_succ]
    refine wpAnyH_ready (rs := [13]) (by kernel_rfl) (by simp) ?_
    refine AllReadyH.cons (o := { dst := none, op := Op.store 35 (Operand.tmp 7) (Operand.tmp 19), type := 0, pos := "store.go:233", after := #[{ on := 12, ground := Ground.data }, { on := 10, ground := Ground.data }, { on := 8, ground := Ground.chain }, { on := 0, ground := Ground.phase }, { on := 1, ground := Ground.phase }, { on := 2, ground := Ground.phase }, { on := 3, ground := Ground.phase }, { on := 4, ground := Ground.phase }, { on := 5, ground := Ground.phase }, { on := 6, ground := Ground.phase }, { on := 7, ground := Ground.phase }, { on := 8, ground := Ground.phase }, { on := 9, ground := Ground.phase }, { on := 10, ground := Ground.phase }, { on := 11, ground := Ground.textOnly Departure.lateStores }, { on := 12, ground := Ground.phase }], guard := none }) rfl (fun K hK => ?_) AllReadyH.nil
    rw [if_pos (by rfl)]
    have a0 : w1.cell? ⟨w.heap.size, 0, none⟩ = some (.slice none 0 0) := HA1.out.cell 0
    have a1 : w1.cell? ⟨w.heap.size, 1, none⟩ = some (.slice none 0 0) := HA1.out.cell 1
    have f0 : w1.frozen? ⟨w.heap.size, 0, none⟩ = false := HA1.out.frozen 0
    have f1 : w1.frozen? ⟨w.heap.size, 1, none⟩ = false := HA1.out.frozen 1
    have hwl : w.heap.size < w1.heap.size := HA1.out.lt
    have B3 := ((bstep B2.out (Nat.le_refl _) b1).setCell (p := ⟨w.heap.size, 0, none⟩) (Nat.le_refl _) (.slice none 0 0)).setCell (p := ⟨w.heap.size, 1, none⟩) (Nat.le_refl _) (.slice none 0 0)
    go_simp
    refine hK.out _ _ ((B3.cell (p := ⟨s, 0, none⟩) hlt).trans c0) (fun hHeld => ?_)
    clear hK K
    try simp only [Act.put, List.setIfInBounds_toArray, List.set_cons_zero, List.set_cons_succ]
    refine wpAnyH_take (i := 14) (oi := { dst := some 8, op := Op.assign (Operand.tmp 20), type := 4, pos := "store.go:233", after := #[{ on := 11, ground := Ground.data }, { on := 13, ground := Ground.chain }, { on := 0, ground := Ground.phase }, { on := 1, ground := Ground.phase }, { on := 2, ground := Ground.phase }, { on := 3, ground := Ground.phase }, { on := 4, ground := Ground.phase }, { on := 5, ground := Ground.phase }, { on := 6, ground := Ground.phase }, { on := 7, ground := Ground.phase }, { on := 8, ground := Ground.phase }, { on := 9, ground := Ground.phase }, { on := 10, ground := Ground.phase }, { on := 11, ground := Ground.phase }, { on := 12, ground := Ground.phase }, { on := 13, ground := Ground.phase }], guard := none }) (v := ?_) rfl (by kernel_rfl) (by kernel_rfl) (by kernel_rfl) (fun _ _ _ h => h) (Or.inl ⟨by rfl, ?_⟩) hHeld ?_
    rotate_left
    · (intro W1 hSw; (try dsimp only at hSw); go_simp; first | done | (with_reducible rfl))
    try simp only [Act.put, List.setIfInBounds_toArray, List.set_cons_zero, List.set_cons_succ]
    refine wpAnyH_done (by kernel_rfl) ?_ _
    go_wp2
    go_ret
    exact ⟨rfl, B3⟩
  -- END REGION reads
end
end Go.Proofs.YtdfkdgnhpdgphaaGreatDoor

/-
  A store: finds, over nodes without labels and properties.
-/
namespace Go.Proofs.YtdfkdgnhpdgphaaGreatDoor
open Go.RowKit Go.Proofs.Lig

set_option maxRecDepth 100000 in
/-- What finds does for a version's value: nothing, where there are no labels and no properties. -/
theorem finds2_bare (w : World) (a : Addr) : Calls Tryz.prog 188 #[nodVal, .pointer (some a)] w fun e w' => (∃ u, e = .returned u) ∧ Below w.heap.size w w' := by
  have B1 := hid (below_alloc w (.cells #[.slice none 0 0, .slice none 0 0] 35))
  go_enter Tryz.func188, Tryz.ntmps188
  go_wp2_with fail
  go_loopw [10] (fun i wr => i = .int .i64 0 ∧ w.alloc (.cells #[.slice none 0 0, .slice none 0 0] 35) = wr) (fun _ _ => 1)
  case atStart => exact ⟨rfl, rfl⟩
  case round =>
    obtain ⟨rfl, rfl⟩ := hrel
    go_wp2_with fail
    go_loopw [22] (fun i wr => i = .int .i64 0 ∧ w.alloc (.cells #[.slice none 0 0, .slice none 0 0] 35) = wr) (fun _ _ => 1)
    case atStart => exact ⟨rfl, rfl⟩
    case round =>
      obtain ⟨rfl, rfl⟩ := hrel
      go_wp2_with fail
      go_end0
      exact ⟨⟨_, rfl⟩, B1.out⟩

set_option maxHeartbeats 1000000 in
set_option maxRecDepth 100000 in
theorem each_bare (w : World) (X : Nat) (A : Option Addr) (cap : Nat) (l : List (Ver NodV)) (h : Nod.CelA w X A cap l) (hb : ∀ y ∈ l, y.v = e0) (a : Addr) :
    Calls Tryz.prog 187 #[pt X, .func (.func 188) #[] #[.pointer (some a)]] w fun e w' => (∃ u, e = .returned u) ∧ Below w.heap.size w w' := by
  have hx := h.blk.cell 0
  have hln := h.len
  simp only [List.getElem?_cons_zero] at hx
  have HH := hid h
  have HB := hid hb
  clear h hb
  go_enter Tryz.func187, Tryz.ntmps187
  go_wp2_with fail
  go_loopw [13] (fun i wr => ∃ j : Nat, j ≤ l.length ∧ i = .int .i64 (j : Int) ∧ Hid (Below w.heap.size w wr)) (fun i _ => l.length - (intOf i).toNat)
  case atStart => exact ⟨0, Nat.zero_le _, rfl, Below.refl _ _⟩
  case round =>
    obtain ⟨j, hj, rfl, HW⟩ := hrel
    by_cases hlt : j < l.length
    · obtain ⟨y, hy⟩ : ∃ y, l[j]? = some y := ⟨_, List.getElem?_eq_getElem hlt⟩
      have hyv := HB.out y (List.mem_of_getElem? hy)
      have HA := hid (HH.out.below HW.out)
      obtain ⟨g, rfl, hgl⟩ := HA.out.form (by omega)
      obtain ⟨c0, c1, c2, c3⟩ := Nod.row_ver HA.out.own hy
      obtain ⟨who, v, gone⟩ := y
      simp only at hyv
      subst hyv
      simp only [e0] at c0 c1 c2 c3
      have B1 := hid (bstep HW.out (Nat.le_refl _) (below_alloc wr (.cells #[.int .i64 who, .slice none 0 0, .slice none 0 0, .bool gone] 272)))
      have HS := hid HW.out.size
      clear hy
      cases gone
      · go_wp2_with fail
        refine (finds2_bare _ a).mono ?_
        rintro e w2 ⟨⟨u, rfl⟩, b2⟩
        have B2 := hid (bstep B1.out (Nat.le_refl _) b2)
        clear b2
        go_wp2_with fail
        go_roundw
        case rel => exact ⟨j + 1, by omega, by go_num, B2.out⟩
        case measure => simp [intOf]; omega
      · go_wp2_with fail
        go_roundw
        case rel => exact ⟨j + 1, by omega, by go_num, B1.out⟩
        case measure => simp [intOf]; omega
    · obtain rfl : j = l.length := by omega
      go_wp2_with fail
      go_end0
      exact ⟨⟨_, rfl⟩, HW.out⟩

set_option maxRecDepth 100000 in
/-- What lies in the i-th place of the entries is nothing. -/
theorem StoA.entry {O : Nat → Prop} {w : World} {s : Nat} {p : StoP} {d : StoD} (h : StoA O w s p d) {i : Nat} (hi : i < d.ns.length) : ∃ g, p.tA = some ⟨g, 0, none⟩ ∧ w.cell? ⟨g, i, none⟩ = some (.slice none 0 0) ∧ w.frozen? ⟨g, i, none⟩ = false ∧ g < w.heap.size ∧ O g ∧ d.ns.length ≤ 9223372036854775807 ∧
    StoA O (w.setCell ⟨g, i, none⟩ (.slice none 0 0)) s p d ∧ TFr [302] w (w.setCell ⟨g, i, none⟩ (.slice none 0 0)) := by
  obtain ⟨g, hg, h1, h2, h3, ⟨_, h4⟩, h5, cur, hh⟩ := h.trow.get (i := i) (v := .slice none 0 0) (by simp [hi])
  refine ⟨g, hg, h1, h5, h2, h3, h4, ?_⟩
  have e : w.setCell ⟨g, i, none⟩ (.slice none 0 0) = w := by
    have hc := h1
    simp only [World.cell?, hh] at hc
    have hc : cur[i]? = some (.slice none 0 0) := by simpa using hc
    have hil := (Array.getElem?_eq_some_iff.1 hc).1
    have he := (Array.getElem?_eq_some_iff.1 hc).2
    have hgl := (Array.getElem?_eq_some_iff.1 hh).1
    have hgv := (Array.getElem?_eq_some_iff.1 hh).2
    unfold World.setCell
    have : w.heap.modify g (fun | .cells c elem frozen => .cells (if (⟨g, i, none⟩ : Addr).spot.isSome then c else c.setIfInBounds i (.slice none 0 0)) elem frozen | o => o) = w.heap := by
      apply Array.ext_getElem?
      intro k
      rw [Array.getElem?_modify]
      by_cases hk : g = k
      · subst hk
        rw [if_pos rfl, hh]
        simp only [Option.map_some, Option.some.injEq, Obj.cells.injEq, and_true]
        have : cur.setIfInBounds i (.slice none 0 0) = cur := by
          apply Array.ext_getElem?
          intro k
          rw [Array.getElem?_setIfInBounds]
          split
          · rename_i e
            subst e
            simp [he, hil]
          · rfl
        simpa using this
      · rw [if_neg hk]
    exact congrArg (fun H => { w with heap := H }) this
  rw [e]
  exact ⟨h, TFr.refl _ _⟩

set_option maxHeartbeats 2000000 in
set_option maxRecDepth 100000 in
theorem sto_finds {O : Nat → Prop} {w : World} {s : Nat} {p : StoP} {d : StoD} (h : StoA O w s p d) (i : Nat) (hi : i < d.ns.length) :
    Calls Tryz.prog 112 #[pt s, .int .i64 ((i : Int) + 1)] w fun e w' => (∃ u, e = .returned u) ∧ StoA O w' s p d ∧ FrO O w w' ∧ TFr stoT w w' := by
  obtain ⟨l, hl⟩ : ∃ l, d.ns[i]? = some l := ⟨_, List.getElem?_eq_getElem hi⟩
  have hti : ((i : Int) + 1).toNat - 1 = i := by omega
  obtain ⟨X, S, hX, hC, hb⟩ := h.nodeAt ((i : Int) + 1) (by omega) l (by rw [hti]; exact hl)
  obtain ⟨g, hg, t0, tf, tl, hgO, hmx, _⟩ := h.entry hi
  have HI := hid hi
  have HH := hid h
  have HX := hid hX
  have HC := hid hC
  have HB := hid hb
  have c7 := h.c7
  rw [hg] at c7
  have HG := hid hg
  have hsl := h.blk.lt
  have hi0 : (0 : Int) ≤ (i : Int) := by omega
  have hi1 : (i : Int) < (d.ns.length : Int) := by omega
  have hi2 : (i : Int) ≤ 9223372036854775806 := by omega
  obtain ⟨n, hn⟩ : ∃ n, d.ns.length = n := ⟨_, rfl⟩
  rw [hn] at c7 hi1
  have hw1 : IntKind.i64.wrap ((i : Int) + 1 - 1) = (i : Int) := by rw [IntKind.wrap_i64]; omega
  have hw2 : IntKind.i64.wrap (i : Int) = (i : Int) := by rw [IntKind.wrap_i64]; omega
  have B2 := ((Below.refl _ w).alloc (Nat.le_refl _) (.cells #[pt s] 56)).alloc (by simp) (.cells #[.int .i64 ((i : Int) + 1)] 3)
  have B2 := hid B2
  have q7 := (B2.out.cell (p := ⟨s, 7, none⟩) hsl).trans c7
  have qt := (B2.out.cell (p := ⟨g, i, none⟩) tl).trans t0
  clear h hl hX hC hb hi hti hg hmx hn
  go_enter Tryz.func112, Tryz.ntmps112
  go_wp2_with fail
  go_quiet (fail)
  generalize hW : World.drewN _ nq = w1
  have B1 : Hid (Below w.heap.size w w1) := by show Below _ _ _; rw [← hW]; exact bdrewN B2.out nq
  have k0 : w1.cell? ⟨w.heap.size, 0, none⟩ = some (pt s) := by rw [← hW]; exact ((Blk.new w 56 [pt s]).alloc _).cell 0
  have k1 : w1.cell? ⟨w.heap.size + 1, 0, none⟩ = some (.int .i64 ((i : Int) + 1)) := by rw [← hW]; have := (Blk.new (w.alloc (.cells #[pt s] 56)) 3 [.int .i64 ((i : Int) + 1)]).cell 0; simp
  have hz1 : w.heap.size + 2 ≤ w1.heap.size := by rw [← hW]; simp
  have HZ1 := hid hz1
  clear hW B2 q7 qt hz1
  go_wp2_with fail
  go_loopw [17] (fun v wr => v = .int .i64 0 ∧ w1 = wr) (fun _ _ => 1)
  case atStart => exact ⟨rfl, rfl⟩
  case round =>
    obtain ⟨rfl, rfl⟩ := hrel
    have B3 := (below_alloc w1 (.cells #[.slice none 0 0] 302)).alloc (by simp) (.cells #[.func (.func 185) #[] #[.pointer (some ⟨w.heap.size + 1, 0, none⟩), .pointer (some ⟨w.heap.size, 0, none⟩), .pointer (some ⟨w1.heap.size, 0, none⟩)]] 310)
    have B3 := hid B3
    have HN := hid (fun W (hW : Below w.heap.size w W) => sto_node (HH.out.below hW) ((i : Int) + 1) X (by omega) HX.out)
    have HE := hid (fun W (hW : Below w.heap.size w W) => by
      obtain ⟨A, cap, hc, _⟩ := HC.out
      exact each_bare W X A cap l (hc.below hW) HB.out)
    have B13 := hid (bstep B1.out (Nat.le_refl _) B3.out)
    have k0' := (B3.out.cell (p := ⟨w.heap.size, 0, none⟩) (by have := HZ1.out; show w.heap.size < _; omega)).trans k0
    have k1' := (B3.out.cell (p := ⟨w.heap.size + 1, 0, none⟩) (by have := HZ1.out; show w.heap.size + 1 < _; omega)).trans k1
    go_wp2_with fail
    refine (HN.out _ B13.out).mono ?_
    rintro e w2 ⟨rfl, rfl⟩
    go_wp2_with fail
    refine (HE.out _ B13.out _).mono ?_
    rintro e w2 ⟨⟨u, rfl⟩, b2⟩
    have B2 := hid (bstep B13.out (Nat.le_refl _) b2)
    have l0 := (b2.cell (p := ⟨w.heap.size, 0, none⟩) (by have := HZ1.out; simp; omega)).trans k0'
    have l1 := (b2.cell (p := ⟨w.heap.size + 1, 0, none⟩) (by have := HZ1.out; simp; omega)).trans k1'
    have l6 : w2.cell? ⟨w1.heap.size, 0, none⟩ = some (.slice none 0 0) := (b2.cell (p := ⟨w1.heap.size, 0, none⟩) (by simp; omega)).trans (((Blk.new w1 302 [.slice none 0 0]).alloc _).cell 0)
    have l7 := (B2.out.cell (p := ⟨s, 7, none⟩) hsl).trans c7
    have lt := (B2.out.cell (p := ⟨g, i, none⟩) tl).trans t0
    have lf := (B2.out.frozen (p := ⟨g, i, none⟩) tl).trans tf
    have hgl : g < w2.heap.size := Nat.lt_of_lt_of_le tl B2.out.size
    clear b2 k0 k1 k0' k1' B3 B13 HN HE t0 tf c7
    go_wp2_with fail
    go_region
    obtain ⟨g', hg', _, _, _, _, _, q1, q2⟩ := (HH.out.below B2.out).entry HI.out
    rw [HG.out] at hg'
    injection hg' with hg'
    injection hg' with hg'
    subst hg'
    have q3 := (q1.drewN 1)
    have f3 : FrO O w (w2.setCell ⟨g, i, none⟩ (.slice none 0 0)).drew := ((FrO.of_below B2.out).setCell hgO _).drewN 1
    have t3 : TFr stoT w (w2.setCell ⟨g, i, none⟩ (.slice none 0 0)).drew := ((TFr.of_below B2.out).trans (q2.mono (by decide))).trans (.of_below (below_drew _))
    go_wp2_with fail
    go_end0
    exact ⟨⟨_, rfl⟩, q3, f3, t3⟩
end Go.Proofs.YtdfkdgnhpdgphaaGreatDoor

/-
  A store: a node's cell written; puts; touches.
-/
namespace Go.Proofs.YtdfkdgnhpdgphaaGreatDoor
open Go.RowKit Go.Proofs.Lig

section
variable {O : Nat → Prop} {w w' : World} {s : Nat} {p : StoP} {d : StoD}
set_option maxRecDepth 100000 in
theorem written_bare {l : List (Ver NodV)} (hb : ∀ y ∈ l, y.v = e0) (t : Int) (gone : Bool) : ∀ y ∈ Cel.written l t e0 gone, y.v = e0 := by
  intro y hy
  unfold Cel.written at hy
  split at hy
  · rcases List.mem_append.1 hy with h1 | h1
    · exact hb y (List.dropLast_subset _ h1)
    · obtain rfl : y = ⟨t, e0, gone⟩ := by simpa using h1
      rfl
  · rcases List.mem_append.1 hy with h1 | h1
    · exact hb y h1
    · obtain rfl : y = ⟨t, e0, gone⟩ := by simpa using h1
      rfl
set_option maxRecDepth 100000 in
theorem nod_write {C : Nat} {SC : List Nat} {c : Clk} (hc : ClkS w C SC c) (hg : c.Good) {X : Nat} {S : List Nat} {l : List (Ver NodV)} (hX : Nod.CelS w X S l) (t : Int) (gone : Bool) (hbl : Cel.blocked c l t = false) (hn : l.length ≤ 1000000) :
    Calls Tryz.prog 158 #[pt X, pt C, .int .i64 t, nodVal, .bool gone] w fun e w' => e = .returned (.int .i64 0) ∧ ∃ S', Nod.CelS w' X S' (Cel.written l t e0 gone) ∧ Sub S' S w.heap.size ∧ Fr S w w' := by
  obtain ⟨A, cap, hX, rfl⟩ := hX
  have B1 := below_alloc w (.cells #[.slice none 0 0, .slice none 0 0] 35)
  have more : Cel.mine l t = false → (Calls Tryz.prog 236 #[pt X, pt C, .int .i64 t] (w.alloc (.cells #[.slice none 0 0, .slice none 0 0] 35)) fun e w' => e = .returned (.int .i64 0) ∧ Below (w.alloc (.cells #[.slice none 0 0, .slice none 0 0] 35)).heap.size (w.alloc (.cells #[.slice none 0 0, .slice none 0 0] 35)) w') →
      Calls Tryz.prog 158 #[pt X, pt C, .int .i64 t, nodVal, .bool gone] w fun e w' => e = .returned (.int .i64 0) ∧ ∃ S', Nod.CelS w' X S' (Cel.written l t e0 gone) ∧ Sub S' (X :: (Value.slice A l.length cap).ownBlock.toList) w.heap.size ∧ Fr (X :: (Value.slice A l.length cap).ownBlock.toList) w w' := fun hm hck => by
    refine (Nod.cel_write_more w X A cap (some ⟨C, 0, none⟩) l t e0 gone hX hm hn hck).mono ?_
    rintro e w' ⟨he, A', cap', h1, h2, h3⟩
    refine ⟨he, _, ?_, h2, h3⟩
    unfold Cel.written
    rw [hm]
    exact ⟨A', cap', h1, by simp⟩
  rcases List.eq_nil_or_concat l with rfl | ⟨l0, y, hcc⟩
  · exact more rfl (Nod.cel_check_empty _ X A cap (some ⟨C, 0, none⟩) t (hX.below B1))
  · rw [List.concat_eq_append] at hcc
    subst hcc
    have hl : (l0 ++ [y]).getLast? = some y := by simp
    have hv : c.clashes t y.who = false := by unfold Cel.blocked at hbl; rw [hl] at hbl; exact hbl
    have hck := Nod.cel_check_some _ X A cap (l0 ++ [y]) C SC c t y (hX.below B1) (hc.below B1) hg hl false hv
    by_cases hm : (y.who == t) = true
    · obtain ⟨g, rfl, _⟩ := hX.form (by simp)
      refine (Nod.cel_write_mine w X g cap (some ⟨C, 0, none⟩) l0 y t e0 gone hX hm hck).mono ?_
      rintro e w' ⟨he, h1, h2⟩
      refine ⟨he, [X, g], ?_, ?_, ?_⟩
      · unfold Cel.written Cel.mine
        rw [hl]
        simp only [hm, if_true, List.dropLast_concat]
        exact ⟨_, cap, h1, by simp [Value.ownBlock]⟩
      · intro k hk
        left
        simpa [Value.ownBlock] using hk
      · exact h2.mono (fun k hk => .inl (by simpa [Value.ownBlock] using hk))
    · refine more ?_ hck
      unfold Cel.mine
      rw [hl]
      simpa using hm

set_option maxHeartbeats 2000000 in
set_option maxRecDepth 100000 in
theorem sto_puts (h : StoA O w s p d) (hO : NewO O w) (t : Int) (i : Nat) (l : List (Ver NodV)) (hl : d.ns[i]? = some l) (gone : Bool) (hbl : Cel.blocked d.c l t = false) (hn : l.length ≤ 1000000) :
    Calls Tryz.prog 82 #[pt s, .int .i64 t, .int .i64 ((i : Int) + 1), nodVal, .bool gone] w fun e w' => (∃ u, e = .returned u) ∧ StoA O w' s p { d with ns := d.ns.set i (Cel.written l t e0 gone) } ∧ FrO O w w' ∧ TFr stoT w w' := by
  have hi := (List.getElem?_eq_some_iff.1 hl).1
  have hti : ((i : Int) + 1).toNat - 1 = i := by omega
  have B0 := hid (below_alloc w (.cells #[.slice none 0 0, .slice none 0 0] 35))
  have HB0 := hid (Blk.new w 35 [.slice none 0 0, .slice none 0 0])
  have B1 := hid (bdrewN B0.out 1)
  have H1 := hid (h.below B1.out)
  have c0 := H1.out.c0
  have hsl := H1.out.blk.lt
  have hb0 := HB0.out.cell 0
  have hb1 := HB0.out.cell 1
  have hbl0 := HB0.out.lt
  simp only [List.getElem?_cons_zero, List.getElem?_cons_succ] at hb0 hb1
  have HO := hid hO
  have HBL := hid hbl
  have HN := hid hn
  have HI := hid hi
  have HL := hid hl
  obtain ⟨X, S, hX, hC, hS, hturn⟩ := H1.out.onNode hl
  have HX := hid hX
  have HC := hid hC
  have HS := hid hS
  clear h hO hbl hn hX hC hS hturn hl hi
  go_enter Tryz.func82, Tryz.ntmps82
  go_wp2_with fail
  go_region_held3 (fun W => W.cell? ⟨s, 0, none⟩ = some (pt p.C) ∧ W.cell? ⟨w.heap.size, 0, none⟩ = some (.slice none 0 0) ∧ W.cell? ⟨w.heap.size, 1, none⟩ = some (.slice none 0 0))
    (first
      | exact ⟨c0, hb0, hb1⟩
      | exact ⟨(b2.cell (p := ⟨s, 0, none⟩) hsl).trans c0, (b2.cell (p := ⟨w.heap.size, 0, none⟩) hbl0).trans hb0, (b2.cell (p := ⟨w.heap.size, 1, none⟩) hbl0).trans hb1⟩
      | exact ⟨q4, q5, q6⟩
      | go_keep)
    (first
      | (go_at_call 157; refine (sto_node (by first | exact H1.out | exact H1.out.below b2) _ X (by omega) (by rw [hti]; exact HX.out)).mono ?_; rintro e wn ⟨rfl, rfl⟩)
      | (go_at_call 90; refine (sto_copied _).mono ?_; rintro e w2 ⟨rfl, b2⟩)
      | (go_at_call 158
         obtain ⟨SC, hc2, _⟩ := (H1.out.below b2).clk
         obtain ⟨X2, S2, hX2, hC2, hS2, turn⟩ := (H1.out.below b2).onNode HL.out
         have hXX : X2 = X := by
           rw [HX.out] at hX2
           injection hX2 with e
           exact e.symm
         subst hXX
         have TURN := hid turn
         clear turn
         refine (nod_write hc2 H1.out.good hC2 t gone HBL.out HN.out).mono ?_
         rintro e w3 ⟨rfl, S', q1, q2, q3⟩
         have t3 := TFr.of_fr q3 hC2.typed
         have q4 : w3.cell? ⟨s, 0, none⟩ = some (pt p.C) := ((H1.out.below b2).blk.tfr t3 (by decide)).cell 0
         have q56 := ((HB0.out.drewN 1).below b2 hbl0).tfr t3 (by decide)
         have q5 := q56.cell 0
         have q6 := q56.cell 1
         simp only [List.getElem?_cons_zero, List.getElem?_cons_succ] at q5 q6))
  obtain ⟨q7, q8⟩ := TURN.out w3 S' _ q1 q2 q3 (HO.out.step (Nat.le_trans B1.out.size b2.size)) (written_bare ((H1.out.below b2).bare l (List.mem_of_getElem? HL.out)) t gone)
  have HF := hid (sto_finds q7 i (by simpa using HI.out))
  have F3 : Hid (FrO O w w3) := ((FrO.of_below B1.out).step b2).trans (.of_fr q3 hS2)
  have T3 : Hid (TFr stoT w w3) := ((TFr.of_below B1.out).trans (.of_below b2)).trans (q8.mono (by decide))
  clear q1 q2 q3 q4 q5 q56 q6 q7 q8 t3 hC2 hS2 hX2 TURN b2 c0 hb0 hb1
  go_wp2_with fail
  refine HF.out.mono ?_
  rintro e w4 ⟨⟨u, rfl⟩, z1, z2, z3⟩
  go_wp2_with fail
  go_end0
  exact ⟨⟨_, rfl⟩, z1, F3.out.trans z2, T3.out.trans z3⟩
end
end Go.Proofs.YtdfkdgnhpdgphaaGreatDoor

/-
  A store: grows.
-/
namespace Go.Proofs.YtdfkdgnhpdgphaaGreatDoor
open Go.RowKit Go.Proofs.Lig

section
variable {O : Nat → Prop} {w w' w2 w3 : World} {s : Nat} {p : StoP} {d : StoD}
set_option maxRecDepth 100000 in
/-- A struct's block beside a row that grows. -/
theorem blk_grown {e : TypeId} {size : Nat} {A : Option Addr} {n cap : Nat} {cs : List Value} {sT : TypeId} {cells : List Value} (hs : Blk w2 s sT cells) (hrow : OwnO O w2 e size A n cap cs) (hne : e ≠ sT) (hg : w2.grownBy w3 (Value.slice A n cap).ownBlock) : Blk w3 s sT cells :=
  hs.grown hg (own_ne hrow.own hs hne)
set_option maxRecDepth 100000 in
/-- A field's row has grown, and was stored. -/
theorem field_grown {e : TypeId} {size : Nat} {A A' : Option Addr} {n n' cap cap' : Nat} {cs cs' : List Value} {sT : TypeId} {cells : List Value} (k : Nat) (hO : NewO O w2) (hs : Blk w2 s sT cells) (hrow : OwnO O w2 e size A n cap cs) (hne : e ≠ sT) (sO : O s)
    (hg : w2.grownBy w3 (Value.slice A n cap).ownBlock) (hown : w3.ownsRow 0 e size (.slice A' n' cap') n' cs') (hat : (Value.slice A' n' cap').ownBlock = (Value.slice A n cap).ownBlock ∨ (Value.slice A' n' cap').ownBlock = some w2.heap.size) :
    OwnO O (w3.setCell ⟨s, k, none⟩ (.slice A' n' cap')) e size A' n' cap' cs' ∧ Blk (w3.setCell ⟨s, k, none⟩ (.slice A' n' cap')) s sT (cells.set k (.slice A' n' cap')) ∧ TFr [e, sT] w2 (w3.setCell ⟨s, k, none⟩ (.slice A' n' cap')) ∧ FrO O w2 (w3.setCell ⟨s, k, none⟩ (.slice A' n' cap')) := by
  have h3 := blk_grown hs hrow hne hg
  refine ⟨⟨own_far hown (own_ne hown h3 hne) _, fun q hq => ?_⟩, h3.set_ k _, ?_, ?_⟩
  · rcases hat with h | h
    · rw [h] at hq; exact hrow.at_ q hq
    · rw [h] at hq; injection hq with hq; exact hO q (by omega)
  · refine ((TFr.of_grown hrow.own hg).mono (by simp)).trans ?_
    refine .of_fr (S := [s]) ((Fr.refl _ _).setCell (.inl (by simp)) _) (fun q hq => ?_)
    obtain rfl : q = s := by simpa using hq
    exact ⟨_, _, _, h3, by simp⟩
  · exact ((FrO.refl O w2).grown hg (fun q hq => hrow.at_ q hq)).setCell sO _
set_option maxRecDepth 100000 in
theorem news_new (W : World) (v : Value) (t : TypeId) (g : Nat) (hg : W.heap.size = g) : ∀ j u, [v][j]? = some u → (W.alloc (.cells #[v] t)).cell? ((⟨g, 0, none⟩ : Addr).add j) = some u := by
  subst hg
  exact World.news_of_block (cs := #[v]) (t := t) (heap_alloc_new W _)
set_option maxRecDepth 100000 in
theorem news_new2 (W : World) (v u : Value) (t : TypeId) : ∀ j x, [v, u][j]? = some x → (W.alloc (.cells #[v, u] t)).cell? ((⟨W.heap.size, 0, none⟩ : Addr).add j) = some x :=
  World.news_of_block (cs := #[v, u]) (t := t) (heap_alloc_new W _)
theorem info_nptr : (Tryz.prog.info? 88).map (fun i => (i.zero, i.size, i.bytes)) = some (some (.pointer none), 1, 8) := by kernel_rfl
set_option maxRecDepth 100000 in
theorem info_eptr : (Tryz.prog.info? 101).map (fun i => (i.zero, i.size, i.bytes)) = some (some (.pointer none), 1, 8) := by kernel_rfl
theorem info_entries : (Tryz.prog.info? 302).map (fun i => (i.zero, i.size, i.bytes)) = some (some (.slice none 0 0), 1, 24) := by kernel_rfl
theorem info_ends : (Tryz.prog.info? 261).map (fun i => (i.zero, i.size, i.bytes)) = some (some (.agg #[.int .i64 0, .int .i64 0]), 2, 16) := by kernel_rfl

/-- The length of the slice in a field. -/
def sLen (w : World) (s k : Nat) : Nat := match w.cell? ⟨s, k, none⟩ with | some (.slice _ n _) => n | _ => 0
set_option maxRecDepth 100000 in
theorem sto_grown_node {w1 w6 : World} {q q' : StoP} {X : Nat} {ns : List (List (Ver NodV))} (h : StoA O w s q { d with ns := ns }) (hO : NewO O w) (hB : Below w.heap.size w w1) (hX : Nod.CelS w1 X [X] []) (hXg : w.heap.size ≤ X)
    (hT : TFr [88, 99, 302] w1 w6) (hb : Blk w6 s 99 (stoCells q' (ns ++ [[]]).length d.es.length d.ends.length (ns ++ [[]]).length))
    (hn : OwnO O w6 88 1 q'.nA (ns ++ [[]]).length q'.nc (q'.Xs.map pt)) (ht : OwnO O w6 302 1 q'.tA (ns ++ [[]]).length q'.tc (List.replicate (ns ++ [[]]).length (.slice none 0 0)))
    (e1 : q'.C = q.C := by rfl) (e2 : q'.eA = q.eA := by rfl) (e3 : q'.ec = q.ec := by rfl) (e4 : q'.dA = q.dA := by rfl) (e5 : q'.dc = q.dc := by rfl) (e6 : q'.o = q.o := by rfl) (e7 : q'.i = q.i := by rfl) (e8 : q'.Xs = q.Xs ++ [X] := by rfl) (e9 : q'.Ys = q.Ys := by rfl) :
    StoA O w6 s q' { d with ns := ns ++ [[]] } := by
  obtain ⟨SC, hc, hS⟩ := h.clk
  have hT' : TFr [88, 99, 302] w w6 := (TFr.of_below hB).trans hT
  refine ⟨hb, h.sO, ⟨SC, by rw [e1]; exact hc.tfr hT' (by decide), hS⟩, h.good, hn, ?_, ?_, ht, ?_, ?_, ?_, h.dl, ?_⟩
  · rw [e2, e3, e9]; exact h.erow.tfr hT' (by decide)
  · rw [e4, e5]; exact h.drow.tfr hT' (by decide)
  · rw [e8]
    exact (h.nodes.push nod_law hB hX (fun k hk => by
      obtain rfl : k = X := by simpa using hk
      exact hXg) hO).tfr nod_law hT (by decide)
  · rw [e9]; exact h.edges.tfr edg_law hT' (by decide)
  · rw [e6, e7]; exact h.chains.tfr chn_law hT' (by decide)
  · intro l hl y hy
    rcases List.mem_append.1 hl with h1 | h1
    · exact h.bare l h1 y hy
    · obtain rfl : l = [] := by simpa using h1
      simp at hy

set_option maxRecDepth 100000 in
theorem sto_grown_edge {w1 w6 : World} {q q' : StoP} {X : Nat} {es : List (List (Ver EdgV))} {ends : List (Int × Int)} (h : StoA O w s q { d with es := es, ends := ends }) (hO : NewO O w) (hB : Below w.heap.size w w1) (hX : Edg.CelS w1 X [X] []) (hXg : w.heap.size ≤ X)
    (hT : TFr [101, 99, 261] w1 w6) (hb : Blk w6 s 99 (stoCells q' d.ns.length (es ++ [[]]).length (ends ++ [(0, 0)]).length d.ns.length))
    (hn : OwnO O w6 101 1 q'.eA (es ++ [[]]).length q'.ec (q'.Ys.map pt)) (ht : OwnO O w6 261 2 q'.dA (ends ++ [(0, 0)]).length q'.dc (encEnds (ends ++ [(0, 0)])))
    (e1 : q'.C = q.C := by rfl) (e2 : q'.nA = q.nA := by rfl) (e3 : q'.nc = q.nc := by rfl) (e4 : q'.tA = q.tA := by rfl) (e5 : q'.tc = q.tc := by rfl) (e6 : q'.o = q.o := by rfl) (e7 : q'.i = q.i := by rfl) (e8 : q'.Ys = q.Ys ++ [X] := by rfl) (e9 : q'.Xs = q.Xs := by rfl) :
    StoA O w6 s q' { d with es := es ++ [[]], ends := ends ++ [(0, 0)] } := by
  obtain ⟨SC, hc, hS⟩ := h.clk
  have hT' : TFr [101, 99, 261] w w6 := (TFr.of_below hB).trans hT
  refine ⟨hb, h.sO, ⟨SC, by rw [e1]; exact hc.tfr hT' (by decide), hS⟩, h.good, ?_, hn, ht, ?_, ?_, ?_, ?_, ?_, h.bare⟩
  · rw [e2, e3, e9]; exact h.nrow.tfr hT' (by decide)
  · rw [e4, e5]; exact h.trow.tfr hT' (by decide)
  · rw [e9]; exact h.nodes.tfr nod_law hT' (by decide)
  · rw [e8]
    exact (h.edges.push edg_law hB hX (fun k hk => by
      obtain rfl : k = X := by simpa using hk
      exact hXg) hO).tfr edg_law hT (by decide)
  · rw [e6, e7]; exact h.chains.tfr chn_law hT' (by decide)
  · have := h.dl
    simp at this ⊢
    exact this

set_option maxHeartbeats 4000000 in
set_option maxRecDepth 100000 in
theorem sto_grows (h : StoA O w s p d) (hO : NewO O w) (a b : Nat) (ha : a ≤ 1000) (hb : b ≤ 1000) :
    Calls Tryz.prog 79 #[pt s, .int .i64 (a : Int), .int .i64 (b : Int)] w fun e w' => (∃ u, e = .returned u) ∧ Sto O w' s { d with ns := d.ns ++ List.replicate (a - d.ns.length) [], es := d.es ++ List.replicate (b - d.es.length) [], ends := d.ends ++ List.replicate (b - d.es.length) (0, 0) } ∧ FrO O w w' ∧ TFr stoT w w' := by
  obtain ⟨jn, hjn, hzn0, hzn1, hzn2⟩ := info_parts info_nptr
  obtain ⟨je, hje, hze0, hze1, hze2⟩ := info_parts info_eptr
  obtain ⟨jt, hjt, hzt0, hzt1, hzt2⟩ := info_parts info_entries
  obtain ⟨jd, hjd, hzd0, hzd1, hzd2⟩ := info_parts info_ends
  have hpos1 : 0 < 1 := by omega
  have hpos2 : 0 < 2 := by omega
  have HH := hid h
  have HO := hid hO
  have HA := hid ha
  have HB := hid hb
  clear h hO
  go_enter Tryz.func79, Tryz.ntmps79
  go_wp2_with fail
  go_loopw [6] (fun _ wr => ∃ (k : Nat) (q : StoP), (k = 0 ∨ d.ns.length + k ≤ a) ∧ Hid (StoA O wr s q { d with ns := d.ns ++ List.replicate k [] }) ∧ Hid (FrO O w wr) ∧ Hid (TFr stoT w wr)) (fun _ wr => a - sLen wr s 1)
  case atStart => exact ⟨0, p, .inl rfl, by simpa using HH, FrO.refl _ _, TFr.refl _ _⟩
  case round =>
    obtain ⟨k, q, hk, HS, HW, HT⟩ := hrel
    have c1 := HS.out.c1
    have c7 := HS.out.c7
    simp only [List.length_append, List.length_replicate] at c1 c7
    by_cases hlt : d.ns.length + k < a
    · have hlI : ((d.ns.length + k : Nat) : Int) < (a : Int) := by omega
      have hlI' : decide (d.ns.length + k < a) = true := by simpa using hlt
      have B0 := (below_drewN' wr 1).alloc (o := .cells #[.slice none 0 0] 274) (by simp)
      have B1 := B0.alloc (o := .cells #[pt wr.heap.size] 88) (by simp)
      have hsl := HS.out.blk.lt
      have c0 := HS.out.c0
      have HZ1 := hid ((B0.cell (p := ⟨s, 0, none⟩) hsl).trans c0)
      have HZ2 := hid ((B1.cell (p := ⟨s, 0, none⟩) hsl).trans c0)
      have c1' := (B0.cell (p := ⟨s, 1, none⟩) hsl).trans c1
      have c1'' := (B1.cell (p := ⟨s, 1, none⟩) hsl).trans c1
      have HO2 := hid (HO.out.step (Nat.le_trans HW.out.size B1.size))
      have HB1 := hid B1
      have HS1 := hid (HS.out.below B1)
      have HROW : Hid (OwnO O (((wr.drewN 1).alloc (.cells #[.slice none 0 0] 274)).alloc (.cells #[pt wr.heap.size] 88)) 88 1 q.nA (d.ns.length + k) q.nc (q.Xs.map pt)) := by show OwnO _ _ _ _ _ _ _ _; have := HS1.out.nrow; simpa using this
      have HB2 := hid HS1.out.blk
      have HV : Hid ((stoCells q (d.ns ++ List.replicate k []).length d.es.length d.ends.length (d.ns ++ List.replicate k []).length)[1]? = some (.slice q.nA (d.ns.length + k) q.nc)) := by show _ = _; simp [stoCells]
      have HNEWS := hid (news_new ((wr.drewN 1).alloc (.cells #[.slice none 0 0] 274)) (pt wr.heap.size) 88 (wr.heap.size + 1) (by simp))
      have HONE : Hid (∀ u ∈ [pt wr.heap.size], u.oneCell' = true) := by
        intro u hu
        obtain rfl : u = pt wr.heap.size := by simpa using hu
        rfl
      have HMX : Hid (d.ns.length + k + 1 ≤ maxLen) := by show _ ≤ _; unfold maxLen; omega
      have HMB : Hid ((d.ns.length + k + 1) * 8 ≤ 140737488355328) := by show _ ≤ _; omega
      have HV7 : Hid (∀ v, ((stoCells q (d.ns ++ List.replicate k []).length d.es.length d.ends.length (d.ns ++ List.replicate k []).length).set 1 v)[7]? = some (.slice q.tA (d.ns.length + k) q.tc)) := by show ∀ v, _ = _; intro v; simp [stoCells]
      have HTROW : Hid (OwnO O (((wr.drewN 1).alloc (.cells #[.slice none 0 0] 274)).alloc (.cells #[pt wr.heap.size] 88)) 302 1 q.tA (d.ns.length + k) q.tc (List.replicate (d.ns.length + k) (.slice none 0 0))) := by show OwnO _ _ _ _ _ _ _ _; have := HS1.out.trow; simpa using this
      have ONE0 : Hid (∀ u ∈ [(.slice none 0 0 : Value)], u.oneCell' = true) := by
        intro u hu
        obtain rfl : u = .slice none 0 0 := by simpa using hu
        rfl
      have HMB2 : Hid ((d.ns.length + k + 1) * 24 ≤ 140737488355328) := by show _ ≤ _; omega
      have FIN : Hid (∀ A3 cap3 A5 cap5 w4 w6, OwnO O w4 88 1 A3 (d.ns.length + k + 1) cap3 (q.Xs.map pt ++ [pt wr.heap.size]) → TFr [88, 99] (((wr.drewN 1).alloc (.cells #[.slice none 0 0] 274)).alloc (.cells #[pt wr.heap.size] 88)) w4 →
          FrO O (((wr.drewN 1).alloc (.cells #[.slice none 0 0] 274)).alloc (.cells #[pt wr.heap.size] 88)) w4 → Below w4.heap.size w4 (w4.alloc (.cells #[.slice none 0 0] 302)) → OwnO O w6 302 1 A5 (d.ns.length + k + 1) cap5 (List.replicate (d.ns.length + k) (.slice none 0 0) ++ [.slice none 0 0]) →
          Blk w6 s 99 (((stoCells q (d.ns ++ List.replicate k []).length d.es.length d.ends.length (d.ns ++ List.replicate k []).length).set 1 (.slice A3 (d.ns.length + k + 1) cap3)).set 7 (.slice A5 (d.ns.length + k + 1) cap5)) → TFr [302, 99] (w4.alloc (.cells #[.slice none 0 0] 302)) w6 → FrO O (w4.alloc (.cells #[.slice none 0 0] 302)) w6 →
          (∃ (k' : Nat) (q' : StoP), (k' = 0 ∨ d.ns.length + k' ≤ a) ∧ Hid (StoA O w6 s q' { d with ns := d.ns ++ List.replicate k' [] }) ∧ Hid (FrO O w w6) ∧ Hid (TFr stoT w w6)) ∧ a - sLen w6 s 1 < a - sLen wr s 1) := fun A3 cap3 A5 cap5 w4 w6 o4 t4 f4 b4 o6 b6 t6 f6 => by
        have hB := (below_drewN' wr 1).alloc (o := .cells #[.slice none 0 0] 274) (by simp)
        have hx : Nod.CelS ((wr.drewN 1).alloc (.cells #[.slice none 0 0] 274)) wr.heap.size [wr.heap.size] [] := ⟨none, 0, ⟨Blk.new (wr.drewN 1) 274 [.slice none 0 0], World.ownsRow_nil _ _ _ _⟩, rfl⟩
        have hT : TFr [88, 99, 302] ((wr.drewN 1).alloc (.cells #[.slice none 0 0] 274)) w6 :=
          (((TFr.of_below (below_alloc _ _)).trans (t4.mono (by decide))).trans (.of_below b4)).trans (t6.mono (by decide))
        have hlen : (d.ns ++ List.replicate k [] ++ [[]]).length = d.ns.length + k + 1 := by simp [Nat.add_assoc]
        have hS := sto_grown_node (q' := { q with nA := A3, nc := cap3, tA := A5, tc := cap5, Xs := q.Xs ++ [wr.heap.size] }) HS.out (HO.out.step HW.out.size) hB hx (Nat.le_refl _) hT (by rw [hlen]; exact b6) (by
          have : OwnO O w6 88 1 A3 (d.ns.length + k + 1) cap3 (q.Xs.map pt ++ [pt wr.heap.size]) := (o4.tfr (ts := []) (.of_below b4) (by simp)).tfr t6 (by decide)
          rw [hlen]
          simpa using this) (by rw [hlen, List.replicate_succ']; exact o6)
        have hw1 : sLen wr s 1 = d.ns.length + k := by simp [sLen, HS.out.c1]
        have hw6 : sLen w6 s 1 = d.ns.length + k + 1 := by
          have := hS.c1
          simp only [List.length_append, List.length_replicate, List.length_singleton] at this
          simp [sLen, this]
        refine ⟨⟨k + 1, { q with nA := A3, nc := cap3, tA := A5, tc := cap5, Xs := q.Xs ++ [wr.heap.size] }, .inr (by omega), ?_, ?_, ?_⟩, by omega⟩
        · have e : d.ns ++ List.replicate k [] ++ [[]] = d.ns ++ List.replicate (k + 1) [] := by rw [List.replicate_succ', List.append_assoc]
          have hS := hS
          simp only [e] at hS
          exact hS
        · exact (((HW.out.step (hB.alloc (by simp) _)).trans f4).step b4).trans f6
        · exact (((HT.out.trans (.of_below hB)).trans (hT.mono (by decide))))
      clear B0 B1 c7 ha hb
      go_wp2_with fail
      -- REGION grows1
      refine wp_region_held_drew (S := fun W => W.cell? ⟨s, 0, none⟩ = some (pt q.C)) (by kernel_rfl) c0 (fun hHeld => ?_)
      refine wpAnyH_take (i := 0) (oi := { dst := some 13, op := Op.move (Operand.tmp 0), type := 56, pos := "store.go:190", after := #[], guard := none }) (v := ?_) rfl (by kernel_rfl) (by kernel_rfl) (by kernel_rfl) (fun _ _ _ h => h) (Or.inl ⟨by rfl, ?_⟩) hHeld ?_
      rotate_left
      · (intro W1 hSw; (try dsimp only at hSw); go_simp; first | done | (with_reducible rfl))
      try simp only [Act.put, List.setIfInBounds_toArray, List.set_cons_zero, List.set_cons_succ]
      refine wpAnyH_take (i := 1) (oi := { dst := some 14, op := Op.move (Operand.tmp 0), type := 56, pos := "store.go:190", after := #[], guard := none }) (v := ?_) rfl (by kernel_rfl) (by kernel_rfl) (by kernel_rfl) (fun _ _ _ h => h) (Or.inl ⟨by rfl, ?_⟩) hHeld ?_
      rotate_left
      · (intro W1 hSw; (try dsimp only at hSw); go_simp; first | done | (with_reducible rfl))
      try simp only [Act.put, List.setIfInBounds_toArray, List.set_cons_zero, List.set_cons_succ]
      refine wpAnyH_take (i := 2) (oi := { dst := some 15, op := Op.nilCheck (Operand.tmp 14), type := 0, pos := "store.go:190", after := #[{ on := 1, ground := Ground.data }], guard := none }) (v := ?_) rfl (by kernel_rfl) (by kernel_rfl) (by kernel_rfl) (fun _ _ _ h => h) (Or.inl ⟨by rfl, ?_⟩) hHeld ?_
      rotate_left
      · (intro W1 hSw; (try dsimp only at hSw); go_simp; first | done | (with_reducible rfl))
      try simp only [Act.put, List.setIfInBounds_toArray, List.set_cons_zero, List.set_cons_succ]
      refine wpAnyH_take (i := 3) (oi := { dst := some 16, op := Op.fieldAddr 99 (Operand.tmp 15) 1, type := 0, pos := "store.go:190", after := #[{ on := 2, ground := Ground.data }], guard := none }) (v := ?_) rfl (by kernel_rfl) (by kernel_rfl) (by kernel_rfl) (fun _ _ _ h => h) (Or.inl ⟨by rfl, ?_⟩) hHeld ?_
      rotate_left
      · (intro W1 hSw; (try dsimp only at hSw); go_simp; first | done | (with_reducible rfl))
      try simp only [Act.put, List.setIfInBounds_toArray, List.set_cons_zero, List.set_cons_succ]
      refine wpAnyH_ready (rs := [4, 5]) (by kernel_rfl) (by simp) ?_
      refine AllReadyH.cons (o := { dst := some 17, op := Op.load 92 (Operand.tmp 16), type := 92, pos := "store.go:190", after := #[{ on := 3, ground := Ground.data }], guard := none }) rfl (fun K hK => ?_) (AllReadyH.cons (o := { dst := some 18, op := Op.call { callee := Callee.value (Operand.func 154), args := #[], argTypes := #[] }, type := 88, pos := "store.go:190", after := #[], guard := none }) rfl (fun K hK => ?_) AllReadyH.nil)
      · rw [if_pos (by rfl)]
        go_simp
        refine hK.out _ _ hHeld (fun hHeld => ?_)
        clear hK K
        try simp only [Act.put, List.setIfInBounds_toArray, List.set_cons_zero, List.set_cons_succ]
        refine wpAnyH_ready (rs := [5]) (by kernel_rfl) (by simp) ?_
        refine AllReadyH.cons (o := { dst := some 18, op := Op.call { callee := Callee.value (Operand.func 154), args := #[], argTypes := #[] }, type := 88, pos := "store.go:190", after := #[], guard := none }) rfl (fun K hK => ?_) AllReadyH.nil
        rw [if_pos (by rfl)]
        go_simp
        go_at_call 154
        refine (Nod.cel_new _).mono ?_
        rintro e wn ⟨rfl, hwn⟩
        subst hwn
        refine hK.out _ _ (HZ1.out) (fun hHeld => ?_)
        clear hK K
        try simp only [Act.put, List.setIfInBounds_toArray, List.set_cons_zero, List.set_cons_succ]
        refine wpAnyH_ready (rs := [6]) (by kernel_rfl) (by simp) ?_
        refine AllReadyH.cons (o := { dst := some 19, op := Op.buildSlice 92 1 #[(0, Operand.tmp 18)], type := 92, pos := "store.go:190", after := #[{ on := 5, ground := Ground.data }], guard := none }) rfl (fun K hK => ?_) AllReadyH.nil
        rw [if_pos (by rfl)]
        go_simp
        refine hK.out _ _ (HZ2.out) (fun hHeld => ?_)
        clear hK K
        try simp only [Act.put, List.setIfInBounds_toArray, List.set_cons_zero, List.set_cons_succ]
        refine wpAnyH_ready (rs := [7]) (by kernel_rfl) (by simp) ?_
        refine AllReadyH.cons (o := { dst := some 20, op := Op.call { callee := Callee.builtin Builtin.append, args := #[Operand.tmp 17, Operand.tmp 19], argTypes := #[92, 92] }, type := 92, pos := "store.go:190", after := #[{ on := 4, ground := Ground.data }, { on := 6, ground := Ground.data }, { on := 5, ground := Ground.chain }], guard := none }) rfl (fun K hK => ?_) AllReadyH.nil
        refine step_append_all rfl _ _ _ rfl 0 88 jn _ 1 8 Tryz.underlying92 hjn hzn0 hzn1 hzn2 rfl hpos1 q.nA q.nc (d.ns.length + k) (q.Xs.map pt) rfl HROW.out.own (some ⟨wr.heap.size + 1, 0, none⟩) 1 1 [pt wr.heap.size] rfl rfl (fun e => by cases e) (fun ad had => by cases had; exact HNEWS.out) HONE.out HMX.out HMB.out (Nat.zero_le _) ?_
        intro A3 cap3 w3 hown3 hgrow3 hat3
        have hB3 := blk_grown HB2.out HROW.out (by decide) hgrow3
        have s3 : w3.cell? ⟨s, 1, none⟩ = some (.slice q.nA (d.ns.length + k) q.nc) := (hB3.cell 1).trans HV.out
        have z3 : w3.cell? ⟨s, 0, none⟩ = some (pt q.C) := hB3.cell 0
        have sf3 := hB3.frozen 1
        have sl3 := hB3.lt
        refine hK.out _ _ z3 (fun hHeld => ?_)
        clear hK K
        try simp only [Act.put, List.setIfInBounds_toArray, List.set_cons_zero, List.set_cons_succ]
        refine wpAnyH_take (i := 8) (oi := { dst := some 21, op := Op.nilCheck (Operand.tmp 13), type := 0, pos := "store.go:190", after := #[{ on := 0, ground := Ground.data }, { on := 0, ground := Ground.phase }, { on := 1, ground := Ground.phase }, { on := 2, ground := Ground.phase }, { on := 3, ground := Ground.phase }, { on := 4, ground := Ground.phase }, { on := 5, ground := Ground.phase }, { on := 6, ground := Ground.phase }, { on := 7, ground := Ground.phase }], guard := none }) (v := ?_) rfl (by kernel_rfl) (by kernel_rfl) (by kernel_rfl) (fun _ _ _ h => h) (Or.inl ⟨by rfl, ?_⟩) hHeld ?_
        rotate_left
        · (intro W1 hSw; (try dsimp only at hSw); go_simp; first | done | (with_reducible rfl))
        try simp only [Act.put, List.setIfInBounds_toArray, List.set_cons_zero, List.set_cons_succ]
        refine wpAnyH_take (i := 9) (oi := { dst := some 22, op := Op.fieldAddr 99 (Operand.tmp 21) 1, type := 0, pos := "store.go:190", after := #[{ on := 8, ground := Ground.data }, { on := 0, ground := Ground.phase }, { on := 1, ground := Ground.phase }, { on := 2, ground := Ground.phase }, { on := 3, ground := Ground.phase }, { on := 4, ground := Ground.phase }, { on := 5, ground := Ground.phase }, { on := 6, ground := Ground.phase }, { on := 7, ground := Ground.phase }], guard := none }) (v := ?_) rfl (by kernel_rfl) (by kernel_rfl) (by kernel_rfl) (fun _ _ _ h => h) (Or.inl ⟨by rfl, ?_⟩) hHeld ?_
        rotate_left
        · (intro W1 hSw; (try dsimp only at hSw); go_simp; first | done | (with_reducible rfl))
        try simp only [Act.put, List.setIfInBounds_toArray, List.set_cons_zero, List.set_cons_succ]
        refine wpAnyH_ready (rs := [10]) (by kernel_rfl) (by simp) ?_
        refine AllReadyH.cons (o := { dst := none, op := Op.store 92 (Operand.tmp 22) (Operand.tmp 20), type := 0, pos := "store.go:190", after := #[{ on := 9, ground := Ground.data }, { on := 7, ground := Ground.data }, { on := 7, ground := Ground.chain }, { on := 0, ground := Ground.phase }, { on := 1, ground := Ground.phase }, { on := 2, ground := Ground.phase }, { on := 3, ground := Ground.phase }, { on := 4, ground := Ground.phase }, { on := 5, ground := Ground.phase }, { on := 6, ground := Ground.phase }, { on := 7, ground := Ground.phase }], guard := none }) rfl (fun K hK => ?_) AllReadyH.nil
        rw [if_pos (by rfl)]
        go_simp
        refine hK.out _ _ (by rw [World.cell?_setCell_other _ _ _ _ (by simp)]; exact z3) (fun hHeld => ?_)
        clear hK K
        try simp only [Act.put, List.setIfInBounds_toArray, List.set_cons_zero, List.set_cons_succ]
        refine wpAnyH_done (by kernel_rfl) ?_ _
        obtain ⟨o4, b4, t4, f4⟩ := field_grown 1 HO2.out HB2.out HROW.out (by decide) HS.out.sO hgrow3 hown3 hat3
        have O4 := hid o4
        have B4 := hid b4
        have T4 := hid t4
        have F4 := hid f4
        have c74 : (World.setCell w3 ⟨s, 1, none⟩ (.slice A3 (d.ns.length + k + 1) cap3)).cell? ⟨s, 7, none⟩ = some (.slice q.tA (d.ns.length + k) q.tc) := (b4.cell 7).trans (HV7.out _)
        clear s3 z3 sf3 sl3 hHeld hB3 o4 b4 t4 f4 hown3 hgrow3 hat3
        generalize World.setCell w3 _ _ = w4 at *
        have TROW : Hid (OwnO O w4 302 1 q.tA (d.ns.length + k) q.tc (List.replicate (d.ns.length + k) (.slice none 0 0))) := HTROW.out.tfr T4.out (by decide)
        have NEW4 := hid (news_new w4 (.slice none 0 0) 302 w4.heap.size rfl)
        go_wp2_with (first
          | (at_builtin
             refine wpList_append_all (by rfl) _ _ _ (by rfl) 0 302 jt _ 1 24 Tryz.underlying97 hjt hzt0 hzt1 hzt2 rfl hpos1 q.tA q.tc (d.ns.length + k) (List.replicate (d.ns.length + k) (.slice none 0 0)) (by first | rfl | simp [Act.eval]) (TROW.out.own.alloc _) (some ⟨w4.heap.size, 0, none⟩) 1 1 [.slice none 0 0] (by first | rfl | simp [Act.eval]) (by rfl) (fun e => by cases e) (fun ad had => by cases had; exact NEW4.out) ONE0.out HMX.out HMB2.out (Nat.zero_le _) ?_
             intro A5 cap5 w5 hown5 hgrow5 hat5
             have hB5 := blk_grown (B4.out.alloc (.cells #[.slice none 0 0] 302)) (TROW.out.tfr (.of_below (below_alloc w4 (.cells #[.slice none 0 0] 302))) (ts := []) (by simp)) (by decide) hgrow5
             have s5 : w5.cell? ⟨s, 7, none⟩ = some (.slice q.tA (d.ns.length + k) q.tc) := (hB5.cell 7).trans (HV7.out _)
             have sf5 := hB5.frozen 7
             have sl5 := hB5.lt))
        have BA4 := below_alloc w4 (.cells #[.slice none 0 0] 302)
        have HO4 : NewO O (w4.alloc (.cells #[.slice none 0 0] 302)) := HO2.out.step (Nat.le_trans F4.out.size BA4.size)
        obtain ⟨o6, b6, t6, f6⟩ := field_grown 7 HO4 (B4.out.alloc (.cells #[.slice none 0 0] 302)) (TROW.out.tfr (.of_below BA4) (ts := []) (by simp)) (by decide) HS.out.sO hgrow5 hown5 hat5
        have FINAL := FIN.out _ _ _ _ _ _ O4.out T4.out F4.out BA4 o6 b6 t6 f6
        clear o6 b6 t6 f6 hown5 hgrow5 hat5 hB5 s5 sf5 sl5
        have FINAL := hid FINAL
        go_roundw
        case rel => exact FINAL.out.1
        case measure => exact FINAL.out.2
      · rw [if_pos (by rfl)]
        go_simp
        go_at_call 154
        refine (Nod.cel_new _).mono ?_
        rintro e wn ⟨rfl, hwn⟩
        subst hwn
        refine hK.out _ _ (HZ1.out) (fun hHeld => ?_)
        clear hK K
        try simp only [Act.put, List.setIfInBounds_toArray, List.set_cons_zero, List.set_cons_succ]
        refine wpAnyH_ready (rs := [4, 6]) (by kernel_rfl) (by simp) ?_
        refine AllReadyH.cons (o := { dst := some 17, op := Op.load 92 (Operand.tmp 16), type := 92, pos := "store.go:190", after := #[{ on := 3, ground := Ground.data }], guard := none }) rfl (fun K hK => ?_) (AllReadyH.cons (o := { dst := some 19, op := Op.buildSlice 92 1 #[(0, Operand.tmp 18)], type := 92, pos := "store.go:190", after := #[{ on := 5, ground := Ground.data }], guard := none }) rfl (fun K hK => ?_) AllReadyH.nil)
        · rw [if_pos (by rfl)]
          go_simp
          refine hK.out _ _ hHeld (fun hHeld => ?_)
          clear hK K
          try simp only [Act.put, List.setIfInBounds_toArray, List.set_cons_zero, List.set_cons_succ]
          refine wpAnyH_ready (rs := [6]) (by kernel_rfl) (by simp) ?_
          refine AllReadyH.cons (o := { dst := some 19, op := Op.buildSlice 92 1 #[(0, Operand.tmp 18)], type := 92, pos := "store.go:190", after := #[{ on := 5, ground := Ground.data }], guard := none }) rfl (fun K hK => ?_) AllReadyH.nil
          rw [if_pos (by rfl)]
          go_simp
          refine hK.out _ _ (HZ2.out) (fun hHeld => ?_)
          clear hK K
          try simp only [Act.put, List.setIfInBounds_toArray, List.set_cons_zero, List.set_cons_succ]
          refine wpAnyH_ready (rs := [7]) (by kernel_rfl) (by simp) ?_
          refine AllReadyH.cons (o := { dst := some 20, op := Op.call { callee := Callee.builtin Builtin.append, args := #[Operand.tmp 17, Operand.tmp 19], argTypes := #[92, 92] }, type := 92, pos := "store.go:190", after := #[{ on := 4, ground := Ground.data }, { on := 6, ground := Ground.data }, { on := 5, ground := Ground.chain }], guard := none }) rfl (fun K hK => ?_) AllReadyH.nil
          refine step_append_all rfl _ _ _ rfl 0 88 jn _ 1 8 Tryz.underlying92 hjn hzn0 hzn1 hzn2 rfl hpos1 q.nA q.nc (d.ns.length + k) (q.Xs.map pt) rfl HROW.out.own (some ⟨wr.heap.size + 1, 0, none⟩) 1 1 [pt wr.heap.size] rfl rfl (fun e => by cases e) (fun ad had => by cases had; exact HNEWS.out) HONE.out HMX.out HMB.out (Nat.zero_le _) ?_
          intro A3 cap3 w3 hown3 hgrow3 hat3
          have hB3 := blk_grown HB2.out HROW.out (by decide) hgrow3
          have s3 : w3.cell? ⟨s, 1, none⟩ = some (.slice q.nA (d.ns.length + k) q.nc) := (hB3.cell 1).trans HV.out
          have z3 : w3.cell? ⟨s, 0, none⟩ = some (pt q.C) := hB3.cell 0
          have sf3 := hB3.frozen 1
          have sl3 := hB3.lt
          refine hK.out _ _ z3 (fun hHeld => ?_)
          clear hK K
          try simp only [Act.put, List.setIfInBounds_toArray, List.set_cons_zero, List.set_cons_succ]
          refine wpAnyH_take (i := 8) (oi := { dst := some 21, op := Op.nilCheck (Operand.tmp 13), type := 0, pos := "store.go:190", after := #[{ on := 0, ground := Ground.data }, { on := 0, ground := Ground.phase }, { on := 1, ground := Ground.phase }, { on := 2, ground := Ground.phase }, { on := 3, ground := Ground.phase }, { on := 4, ground := Ground.phase }, { on := 5, ground := Ground.phase }, { on := 6, ground := Ground.phase }, { on := 7, ground := Ground.phase }], guard := none }) (v := ?_) rfl (by kernel_rfl) (by kernel_rfl) (by kernel_rfl) (fun _ _ _ h => h) (Or.inl ⟨by rfl, ?_⟩) hHeld ?_
          rotate_left
          · (intro W1 hSw; (try dsimp only at hSw); go_simp; first | done | (with_reducible rfl))
          try simp only [Act.put, List.setIfInBounds_toArray, List.set_cons_zero, List.set_cons_succ]
          refine wpAnyH_take (i := 9) (oi := { dst := some 22, op := Op.fieldAddr 99 (Operand.tmp 21) 1, type := 0, pos := "store.go:190", after := #[{ on := 8, ground := Ground.data }, { on := 0, ground := Ground.phase }, { on := 1, ground := Ground.phase }, { on := 2, ground := Ground.phase }, { on := 3, ground := Ground.phase }, { on := 4, ground := Ground.phase }, { on := 5, ground := Ground.phase }, { on := 6, ground := Ground.phase }, { on := 7, ground := Ground.phase }], guard := none }) (v := ?_) rfl (by kernel_rfl) (by kernel_rfl) (by kernel_rfl) (fun _ _ _ h => h) (Or.inl ⟨by rfl, ?_⟩) hHeld ?_
          rotate_left
          · (intro W1 hSw; (try dsimp only at hSw); go_simp; first | done | (with_reducible rfl))
          try simp only [Act.put, List.setIfInBounds_toArray, List.set_cons_zero, List.set_cons_succ]
          refine wpAnyH_ready (rs := [10]) (by kernel_rfl) (by simp) ?_
          refine AllReadyH.cons (o := { dst := none, op := Op.store 92 (Operand.tmp 22) (Operand.tmp 20), type := 0, pos := "store.go:190", after := #[{ on := 9, ground := Ground.data }, { on := 7, ground := Ground.data }, { on := 7, ground := Ground.chain }, { on := 0, ground := Ground.phase }, { on := 1, ground := Ground.phase }, { on := 2, ground := Ground.phase }, { on := 3, ground := Ground.phase }, { on := 4, ground := Ground.phase }, { on := 5, ground := Ground.phase }, { on := 6, ground := Ground.phase }, { on := 7, ground := Ground.phase }], guard := none }) rfl (fun K hK => ?_) AllReadyH.nil
          rw [if_pos (by rfl)]
          go_simp
          refine hK.out _ _ (by rw [World.cell?_setCell_other _ _ _ _ (by simp)]; exact z3) (fun hHeld => ?_)
          clear hK K
          try simp only [Act.put, List.setIfInBounds_toArray, List.set_cons_zero, List.set_cons_succ]
          refine wpAnyH_done (by kernel_rfl) ?_ _
          obtain ⟨o4, b4, t4, f4⟩ := field_grown 1 HO2.out HB2.out HROW.out (by decide) HS.out.sO hgrow3 hown3 hat3
          have O4 := hid o4
          have B4 := hid b4
          have T4 := hid t4
          have F4 := hid f4
          have c74 : (World.setCell w3 ⟨s, 1, none⟩ (.slice A3 (d.ns.length + k + 1) cap3)).cell? ⟨s, 7, none⟩ = some (.slice q.tA (d.ns.length + k) q.tc) := (b4.cell 7).trans (HV7.out _)
          clear s3 z3 sf3 sl3 hHeld hB3 o4 b4 t4 f4 hown3 hgrow3 hat3
          generalize World.setCell w3 _ _ = w4 at *
          have TROW : Hid (OwnO O w4 302 1 q.tA (d.ns.length + k) q.tc (List.replicate (d.ns.length + k) (.slice none 0 0))) := HTROW.out.tfr T4.out (by decide)
          have NEW4 := hid (news_new w4 (.slice none 0 0) 302 w4.heap.size rfl)
          go_wp2_with (first
            | (at_builtin
               refine wpList_append_all (by rfl) _ _ _ (by rfl) 0 302 jt _ 1 24 Tryz.underlying97 hjt hzt0 hzt1 hzt2 rfl hpos1 q.tA q.tc (d.ns.length + k) (List.replicate (d.ns.length + k) (.slice none 0 0)) (by first | rfl | simp [Act.eval]) (TROW.out.own.alloc _) (some ⟨w4.heap.size, 0, none⟩) 1 1 [.slice none 0 0] (by first | rfl | simp [Act.eval]) (by rfl) (fun e => by cases e) (fun ad had => by cases had; exact NEW4.out) ONE0.out HMX.out HMB2.out (Nat.zero_le _) ?_
               intro A5 cap5 w5 hown5 hgrow5 hat5
               have hB5 := blk_grown (B4.out.alloc (.cells #[.slice none 0 0] 302)) (TROW.out.tfr (.of_below (below_alloc w4 (.cells #[.slice none 0 0] 302))) (ts := []) (by simp)) (by decide) hgrow5
               have s5 : w5.cell? ⟨s, 7, none⟩ = some (.slice q.tA (d.ns.length + k) q.tc) := (hB5.cell 7).trans (HV7.out _)
               have sf5 := hB5.frozen 7
               have sl5 := hB5.lt))
          have BA4 := below_alloc w4 (.cells #[.slice none 0 0] 302)
          have HO4 : NewO O (w4.alloc (.cells #[.slice none 0 0] 302)) := HO2.out.step (Nat.le_trans F4.out.size BA4.size)
          obtain ⟨o6, b6, t6, f6⟩ := field_grown 7 HO4 (B4.out.alloc (.cells #[.slice none 0 0] 302)) (TROW.out.tfr (.of_below BA4) (ts := []) (by simp)) (by decide) HS.out.sO hgrow5 hown5 hat5
          have FINAL := FIN.out _ _ _ _ _ _ O4.out T4.out F4.out BA4 o6 b6 t6 f6
          clear o6 b6 t6 f6 hown5 hgrow5 hat5 hB5 s5 sf5 sl5
          have FINAL := hid FINAL
          go_roundw
          case rel => exact FINAL.out.1
          case measure => exact FINAL.out.2
        · rw [if_pos (by rfl)]
          go_simp
          refine hK.out _ _ (HZ2.out) (fun hHeld => ?_)
          clear hK K
          try simp only [Act.put, List.setIfInBounds_toArray, List.set_cons_zero, List.set_cons_succ]
          refine wpAnyH_ready (rs := [4]) (by kernel_rfl) (by simp) ?_
          refine AllReadyH.cons (o := { dst := some 17, op := Op.load 92 (Operand.tmp 16), type := 92, pos := "store.go:190", after := #[{ on := 3, ground := Ground.data }], guard := none }) rfl (fun K hK => ?_) AllReadyH.nil
          rw [if_pos (by rfl)]
          go_simp
          refine hK.out _ _ hHeld (fun hHeld => ?_)
          clear hK K
          try simp only [Act.put, List.setIfInBounds_toArray, List.set_cons_zero, List.set_cons_succ]
          refine wpAnyH_ready (rs := [7]) (by kernel_rfl) (by simp) ?_
          refine AllReadyH.cons (o := { dst := some 20, op := Op.call { callee := Callee.builtin Builtin.append, args := #[Operand.tmp 17, Operand.tmp 19], argTypes := #[92, 92] }, type := 92, pos := "store.go:190", after := #[{ on := 4, ground := Ground.data }, { on := 6, ground := Ground.data }, { on := 5, ground := Ground.chain }], guard := none }) rfl (fun K hK => ?_) AllReadyH.nil
          refine step_append_all rfl _ _ _ rfl 0 88 jn _ 1 8 Tryz.underlying92 hjn hzn0 hzn1 hzn2 rfl hpos1 q.nA q.nc (d.ns.length + k) (q.Xs.map pt) rfl HROW.out.own (some ⟨wr.heap.size + 1, 0, none⟩) 1 1 [pt wr.heap.size] rfl rfl (fun e => by cases e) (fun ad had => by cases had; exact HNEWS.out) HONE.out HMX.out HMB.out (Nat.zero_le _) ?_
          intro A3 cap3 w3 hown3 hgrow3 hat3
          have hB3 := blk_grown HB2.out HROW.out (by decide) hgrow3
          have s3 : w3.cell? ⟨s, 1, none⟩ = some (.slice q.nA (d.ns.length + k) q.nc) := (hB3.cell 1).trans HV.out
          have z3 : w3.cell? ⟨s, 0, none⟩ = some (pt q.C) := hB3.cell 0
          have sf3 := hB3.frozen 1
          have sl3 := hB3.lt
          refine hK.out _ _ z3 (fun hHeld => ?_)
          clear hK K
          try simp only [Act.put, List.setIfInBounds_toArray, List.set_cons_zero, List.set_cons_succ]
          refine wpAnyH_take (i := 8) (oi := { dst := some 21, op := Op.nilCheck (Operand.tmp 13), type := 0, pos := "store.go:190", after := #[{ on := 0, ground := Ground.data }, { on := 0, ground := Ground.phase }, { on := 1, ground := Ground.phase }, { on := 2, ground := Ground.phase }, { on := 3, ground := Ground.phase }, { on := 4, ground := Ground.phase }, { on := 5, ground := Ground.phase }, { on := 6, ground := Ground.phase }, { on := 7, ground := Ground.phase }], guard := none }) (v := ?_) rfl (by kernel_rfl) (by kernel_rfl) (by kernel_rfl) (fun _ _ _ h => h) (Or.inl ⟨by rfl, ?_⟩) hHeld ?_
          rotate_left
          · (intro W1 hSw; (try dsimp only at hSw); go_simp; first | done | (with_reducible rfl))
          try simp only [Act.put, List.setIfInBounds_toArray, List.set_cons_zero, List.set_cons_succ]
          refine wpAnyH_take (i := 9) (oi := { dst := some 22, op := Op.fieldAddr 99 (Operand.tmp 21) 1, type := 0, pos := "store.go:190", after := #[{ on := 8, ground := Ground.data }, { on := 0, ground := Ground.phase }, { on := 1, ground := Ground.phase }, { on := 2, ground := Ground.phase }, { on := 3, ground := Ground.phase }, { on := 4, ground := Ground.phase }, { on := 5, ground := Ground.phase }, { on := 6, ground := Ground.phase }, { on := 7, ground := Ground.phase }], guard := none }) (v := ?_) rfl (by kernel_rfl) (by kernel_rfl) (by kernel_rfl) (fun _ _ _ h => h) (Or.inl ⟨by rfl, ?_⟩) hHeld ?_
          rotate_left
          · (intro W1 hSw; (try dsimp only at hSw); go_simp; first | done | (with_reducible rfl))
          try simp only [Act.put, List.setIfInBounds_toArray, List.set_cons_zero, List.set_cons_succ]
          refine wpAnyH_ready (rs := [10]) (by kernel_rfl) (by simp) ?_
          refine AllReadyH.cons (o := { dst := none, op := Op.store 92 (Operand.tmp 22) (Operand.tmp 20), type := 0, pos := "store.go:190", after := #[{ on := 9, ground := Ground.data }, { on := 7, ground := Ground.data }, { on := 7, ground := Ground.chain }, { on := 0, ground := Ground.phase }, { on := 1, ground := Ground.phase }, { on := 2, ground := Ground.phase }, { on := 3, ground := Ground.phase }, { on := 4, ground := Ground.phase }, { on := 5, ground := Ground.phase }, { on := 6, ground := Ground.phase }, { on := 7, ground := Ground.phase }], guard := none }) rfl (fun K hK => ?_) AllReadyH.nil
          rw [if_pos (by rfl)]
          go_simp
          refine hK.out _ _ (by rw [World.cell?_setCell_other _ _ _ _ (by simp)]; exact z3) (fun hHeld => ?_)
          clear hK K
          try simp only [Act.put, List.setIfInBounds_toArray, List.set_cons_zero, List.set_cons_succ]
          refine wpAnyH_done (by kernel_rfl) ?_ _
          obtain ⟨o4, b4, t4, f4⟩ := field_grown 1 HO2.out HB2.out HROW.out (by decide) HS.out.sO hgrow3 hown3 hat3
          have O4 := hid o4
          have B4 := hid b4
          have T4 := hid t4
          have F4 := hid f4
          have c74 : (World.setCell w3 ⟨s, 1, none⟩ (.slice A3 (d.ns.length + k + 1) cap3)).cell? ⟨s, 7, none⟩ = some (.slice q.tA (d.ns.length + k) q.tc) := (b4.cell 7).trans (HV7.out _)
          clear s3 z3 sf3 sl3 hHeld hB3 o4 b4 t4 f4 hown3 hgrow3 hat3
          generalize World.setCell w3 _ _ = w4 at *
          have TROW : Hid (OwnO O w4 302 1 q.tA (d.ns.length + k) q.tc (List.replicate (d.ns.length + k) (.slice none 0 0))) := HTROW.out.tfr T4.out (by decide)
          have NEW4 := hid (news_new w4 (.slice none 0 0) 302 w4.heap.size rfl)
          go_wp2_with (first
            | (at_builtin
               refine wpList_append_all (by rfl) _ _ _ (by rfl) 0 302 jt _ 1 24 Tryz.underlying97 hjt hzt0 hzt1 hzt2 rfl hpos1 q.tA q.tc (d.ns.length + k) (List.replicate (d.ns.length + k) (.slice none 0 0)) (by first | rfl | simp [Act.eval]) (TROW.out.own.alloc _) (some ⟨w4.heap.size, 0, none⟩) 1 1 [.slice none 0 0] (by first | rfl | simp [Act.eval]) (by rfl) (fun e => by cases e) (fun ad had => by cases had; exact NEW4.out) ONE0.out HMX.out HMB2.out (Nat.zero_le _) ?_
               intro A5 cap5 w5 hown5 hgrow5 hat5
               have hB5 := blk_grown (B4.out.alloc (.cells #[.slice none 0 0] 302)) (TROW.out.tfr (.of_below (below_alloc w4 (.cells #[.slice none 0 0] 302))) (ts := []) (by simp)) (by decide) hgrow5
               have s5 : w5.cell? ⟨s, 7, none⟩ = some (.slice q.tA (d.ns.length + k) q.tc) := (hB5.cell 7).trans (HV7.out _)
               have sf5 := hB5.frozen 7
               have sl5 := hB5.lt))
          have BA4 := below_alloc w4 (.cells #[.slice none 0 0] 302)
          have HO4 : NewO O (w4.alloc (.cells #[.slice none 0 0] 302)) := HO2.out.step (Nat.le_trans F4.out.size BA4.size)
          obtain ⟨o6, b6, t6, f6⟩ := field_grown 7 HO4 (B4.out.alloc (.cells #[.slice none 0 0] 302)) (TROW.out.tfr (.of_below BA4) (ts := []) (by simp)) (by decide) HS.out.sO hgrow5 hown5 hat5
          have FINAL := FIN.out _ _ _ _ _ _ O4.out T4.out F4.out BA4 o6 b6 t6 f6
          clear o6 b6 t6 f6 hown5 hgrow5 hat5 hB5 s5 sf5 sl5
          have FINAL := hid FINAL
          go_roundw
          case rel => exact FINAL.out.1
          case measure => exact FINAL.out.2
      -- END REGION grows1
    · have hka : k = a - d.ns.length := by omega
      subst hka
      obtain ⟨d1, hd1⟩ : ∃ d1 : StoD, d1 = { d with ns := d.ns ++ List.replicate (a - d.ns.length) [] } := ⟨_, rfl⟩
      have HD1 := hid hd1
      have HS' : Hid (StoA O wr s q d1) := by rw [hd1]; exact HS
      have hnl : Hid (d1.ns.length = d.ns.length + (a - d.ns.length)) := by rw [hd1]; show _ = _; simp
      have HDL := hid HS'.out.dl
      have hlI : ¬ (((d.ns.length + (a - d.ns.length) : Nat) : Int) < (a : Int)) := by omega
      have hlI' : decide (d.ns.length + (a - d.ns.length) < a) = false := by simpa using hlt
      have HNLT : Hid (¬ (d.ns.length + (a - d.ns.length) < a)) := hlt
      clear hd1 hk HS c7 hlt
      go_wp2_with fail
      go_loopw [32] (fun _ wr => ∃ (k : Nat) (q : StoP), (k = 0 ∨ d1.es.length + k ≤ b) ∧ Hid (StoA O wr s q { d1 with es := d1.es ++ List.replicate k [], ends := d1.ends ++ List.replicate k (0, 0) }) ∧ Hid (FrO O w wr) ∧ Hid (TFr stoT w wr)) (fun _ wr => b - sLen wr s 2)
      case atStart => exact ⟨0, q, .inl rfl, by simpa using HS', HW, HT⟩
      case round =>
        clear c1 hlI hlI'
        clear HS' HW HT
        obtain ⟨k, q, hk, HS, HW, HT⟩ := hrel
        have c2 := HS.out.c2
        have c3 := HS.out.c3
        simp only [List.length_append, List.length_replicate, HDL.out] at c2 c3
        by_cases hlt : d1.es.length + k < b
        · have hlI : ((d1.es.length + k : Nat) : Int) < (b : Int) := by omega
          have hlI' : decide (d1.es.length + k < b) = true := by simpa using hlt
          have B0 := (below_drewN' wr 1).alloc (o := (.cells #[.slice none 0 0] 282)) (by simp)
          have B1 := B0.alloc (o := (.cells #[pt wr.heap.size] 101)) (by simp)
          have hsl := HS.out.blk.lt
          have c0 := HS.out.c0
          have HZ1 := hid ((B0.cell (p := ⟨s, 0, none⟩) hsl).trans c0)
          have HZ2 := hid ((B1.cell (p := ⟨s, 0, none⟩) hsl).trans c0)
          have c2' := (B0.cell (p := ⟨s, 2, none⟩) hsl).trans c2
          have c2'' := (B1.cell (p := ⟨s, 2, none⟩) hsl).trans c2
          have HO2 := hid (HO.out.step (Nat.le_trans HW.out.size B1.size))
          have HB1 := hid B1
          have HS1 := hid (HS.out.below B1)
          have HROW : Hid (OwnO O (((wr.drewN 1).alloc (.cells #[.slice none 0 0] 282)).alloc (.cells #[pt wr.heap.size] 101)) 101 1 q.eA (d1.es.length + k) q.ec (q.Ys.map pt)) := by show OwnO _ _ _ _ _ _ _ _; have := HS1.out.erow; simpa using this
          have HB2 := hid HS1.out.blk
          have HV : Hid ((stoCells q d1.ns.length (d1.es ++ List.replicate k []).length (d1.ends ++ List.replicate k (0, 0)).length d1.ns.length)[2]? = some (.slice q.eA (d1.es.length + k) q.ec)) := by show _ = _; simp [stoCells]
          have HNEWS := hid (news_new ((wr.drewN 1).alloc (.cells #[.slice none 0 0] 282)) (pt wr.heap.size) 101 (wr.heap.size + 1) (by simp))
          have HONE : Hid (∀ u ∈ [pt wr.heap.size], u.oneCell' = true) := by
            intro u hu
            obtain rfl : u = pt wr.heap.size := by simpa using hu
            rfl
          have HMX : Hid (d1.es.length + k + 1 ≤ maxLen) := by show _ ≤ _; unfold maxLen; have := HB.out; omega
          have HMB : Hid ((d1.es.length + k + 1) * 8 ≤ 140737488355328) := by show _ ≤ _; have := HB.out; omega
          have HV7 : Hid (∀ v, ((stoCells q d1.ns.length (d1.es ++ List.replicate k []).length (d1.ends ++ List.replicate k (0, 0)).length d1.ns.length).set 2 v)[3]? = some (.slice q.dA (d1.es.length + k) q.dc)) := by show ∀ v, _ = _; intro v; simp [stoCells, HDL.out]
          have HTROW : Hid (OwnO O (((wr.drewN 1).alloc (.cells #[.slice none 0 0] 282)).alloc (.cells #[pt wr.heap.size] 101)) 261 2 q.dA (d1.es.length + k) q.dc (encEnds (d1.ends ++ List.replicate k (0, 0)))) := by show OwnO _ _ _ _ _ _ _ _; have := HS1.out.drow; simpa [HDL.out] using this
          have ONE0 : Hid (∀ u ∈ [(.int .i64 0 : Value), .int .i64 0], u.oneCell' = true) := by
            intro u hu
            have : u = .int .i64 0 := by simpa using hu
            rw [this]
            rfl
          have HMB2 : Hid ((d1.es.length + k + 1) * 16 ≤ 140737488355328) := by show _ ≤ _; have := HB.out; omega
          have FIN : Hid (∀ A3 cap3 A5 cap5 w4 w6, OwnO O w4 101 1 A3 (d1.es.length + k + 1) cap3 (q.Ys.map pt ++ [pt wr.heap.size]) → TFr [101, 99] (((wr.drewN 1).alloc (.cells #[.slice none 0 0] 282)).alloc (.cells #[pt wr.heap.size] 101)) w4 →
              FrO O (((wr.drewN 1).alloc (.cells #[.slice none 0 0] 282)).alloc (.cells #[pt wr.heap.size] 101)) w4 → Below w4.heap.size w4 (w4.alloc (.cells #[.int .i64 0, .int .i64 0] 261)) → OwnO O w6 261 2 A5 (d1.es.length + k + 1) cap5 (encEnds (d1.ends ++ List.replicate k (0, 0)) ++ [.int .i64 0, .int .i64 0]) →
              Blk w6 s 99 (((stoCells q d1.ns.length (d1.es ++ List.replicate k []).length (d1.ends ++ List.replicate k (0, 0)).length d1.ns.length).set 2 (.slice A3 (d1.es.length + k + 1) cap3)).set 3 (.slice A5 (d1.es.length + k + 1) cap5)) → TFr [261, 99] (w4.alloc (.cells #[.int .i64 0, .int .i64 0] 261)) w6 → FrO O (w4.alloc (.cells #[.int .i64 0, .int .i64 0] 261)) w6 →
              (∃ (k' : Nat) (q' : StoP), (k' = 0 ∨ d1.es.length + k' ≤ b) ∧ Hid (StoA O w6 s q' { d1 with es := d1.es ++ List.replicate k' [], ends := d1.ends ++ List.replicate k' (0, 0) }) ∧ Hid (FrO O w w6) ∧ Hid (TFr stoT w w6)) ∧ b - sLen w6 s 2 < b - sLen wr s 2) := fun A3 cap3 A5 cap5 w4 w6 o4 t4 f4 b4 o6 b6 t6 f6 => by
            have hB := (below_drewN' wr 1).alloc (o := (.cells #[.slice none 0 0] 282)) (by simp)
            have hx : Edg.CelS ((wr.drewN 1).alloc (.cells #[.slice none 0 0] 282)) wr.heap.size [wr.heap.size] [] := ⟨none, 0, ⟨Blk.new (wr.drewN 1) 282 [.slice none 0 0], World.ownsRow_nil _ _ _ _⟩, rfl⟩
            have hT : TFr [101, 99, 261] ((wr.drewN 1).alloc (.cells #[.slice none 0 0] 282)) w6 :=
              (((TFr.of_below (below_alloc _ _)).trans (t4.mono (by decide))).trans (.of_below b4)).trans (t6.mono (by decide))
            have hlen : (d1.es ++ List.replicate k [] ++ [[]]).length = d1.es.length + k + 1 := by simp [Nat.add_assoc]
            have hlen2 : (d1.ends ++ List.replicate k (0, 0) ++ [(0, 0)]).length = d1.es.length + k + 1 := by simp [Nat.add_assoc, HDL.out]
            have hS := sto_grown_edge (q' := { q with eA := A3, ec := cap3, dA := A5, dc := cap5, Ys := q.Ys ++ [wr.heap.size] }) HS.out (HO.out.step HW.out.size) hB hx (Nat.le_refl _) hT (by rw [hlen, hlen2]; exact b6) (by
              have : OwnO O w6 101 1 A3 (d1.es.length + k + 1) cap3 (q.Ys.map pt ++ [pt wr.heap.size]) := (o4.tfr (ts := []) (.of_below b4) (by simp)).tfr t6 (by decide)
              rw [hlen]
              simpa using this) (by
              rw [hlen2]
              have e : encEnds (d1.ends ++ List.replicate k (0, 0) ++ [(0, 0)]) = encEnds (d1.ends ++ List.replicate k (0, 0)) ++ [.int .i64 0, .int .i64 0] := by simp [encEnds]
              rw [e]
              exact o6)
            have hw1 : sLen wr s 2 = d1.es.length + k := by simp [sLen, HS.out.c2]
            have hw6 : sLen w6 s 2 = d1.es.length + k + 1 := by
              have := hS.c2
              simp only [List.length_append, List.length_replicate, List.length_singleton] at this
              simp [sLen, this]
            refine ⟨⟨k + 1, { q with eA := A3, ec := cap3, dA := A5, dc := cap5, Ys := q.Ys ++ [wr.heap.size] }, .inr (by omega), ?_, ?_, ?_⟩, by omega⟩
            · have e : d1.es ++ List.replicate k [] ++ [[]] = d1.es ++ List.replicate (k + 1) [] := by rw [List.replicate_succ', List.append_assoc]
              have e2 : d1.ends ++ List.replicate k (0, 0) ++ [(0, 0)] = d1.ends ++ List.replicate (k + 1) (0, 0) := by rw [List.replicate_succ', List.append_assoc]
              have hS := hS
              simp only [e, e2] at hS
              exact hS
            · exact (((HW.out.step (hB.alloc (by simp) _)).trans f4).step b4).trans f6
            · exact (((HT.out.trans (.of_below hB)).trans (hT.mono (by decide))))
          clear B0 B1 c3 hnl
          go_wp2_with fail
          -- REGION grows4
          refine wp_region_held_drew (S := fun W => W.cell? ⟨s, 0, none⟩ = some (pt q.C)) (by kernel_rfl) c0 (fun hHeld => ?_)
          refine wpAnyH_take (i := 0) (oi := { dst := some 39, op := Op.move (Operand.tmp 0), type := 56, pos := "store.go:194", after := #[], guard := none }) (v := ?_) rfl (by kernel_rfl) (by kernel_rfl) (by kernel_rfl) (fun _ _ _ h => h) (Or.inl ⟨by rfl, ?_⟩) hHeld ?_
          rotate_left
          · (intro W1 hSw; (try dsimp only at hSw); go_simp; first | done | (with_reducible rfl))
          try simp only [Act.put, List.setIfInBounds_toArray, List.set_cons_zero, List.set_cons_succ]
          refine wpAnyH_take (i := 1) (oi := { dst := some 40, op := Op.move (Operand.tmp 0), type := 56, pos := "store.go:194", after := #[], guard := none }) (v := ?_) rfl (by kernel_rfl) (by kernel_rfl) (by kernel_rfl) (fun _ _ _ h => h) (Or.inl ⟨by rfl, ?_⟩) hHeld ?_
          rotate_left
          · (intro W1 hSw; (try dsimp only at hSw); go_simp; first | done | (with_reducible rfl))
          try simp only [Act.put, List.setIfInBounds_toArray, List.set_cons_zero, List.set_cons_succ]
          refine wpAnyH_take (i := 2) (oi := { dst := some 41, op := Op.nilCheck (Operand.tmp 40), type := 0, pos := "store.go:194", after := #[{ on := 1, ground := Ground.data }], guard := none }) (v := ?_) rfl (by kernel_rfl) (by kernel_rfl) (by kernel_rfl) (fun _ _ _ h => h) (Or.inl ⟨by rfl, ?_⟩) hHeld ?_
          rotate_left
          · (intro W1 hSw; (try dsimp only at hSw); go_simp; first | done | (with_reducible rfl))
          try simp only [Act.put, List.setIfInBounds_toArray, List.set_cons_zero, List.set_cons_succ]
          refine wpAnyH_take (i := 3) (oi := { dst := some 42, op := Op.fieldAddr 99 (Operand.tmp 41) 2, type := 0, pos := "store.go:194", after := #[{ on := 2, ground := Ground.data }], guard := none }) (v := ?_) rfl (by kernel_rfl) (by kernel_rfl) (by kernel_rfl) (fun _ _ _ h => h) (Or.inl ⟨by rfl, ?_⟩) hHeld ?_
          rotate_left
          · (intro W1 hSw; (try dsimp only at hSw); go_simp; first | done | (with_reducible rfl))
          try simp only [Act.put, List.setIfInBounds_toArray, List.set_cons_zero, List.set_cons_succ]
          refine wpAnyH_ready (rs := [4, 5]) (by kernel_rfl) (by simp) ?_
          refine AllReadyH.cons (o := { dst := some 43, op := Op.load 93 (Operand.tmp 42), type := 93, pos := "store.go:194", after := #[{ on := 3, ground := Ground.data }], guard := none }) rfl (fun K hK => ?_) (AllReadyH.cons (o := { dst := some 44, op := Op.call { callee := Callee.value (Operand.func 155), args := #[], argTypes := #[] }, type := 101, pos := "store.go:194", after := #[], guard := none }) rfl (fun K hK => ?_) AllReadyH.nil)
          · rw [if_pos (by rfl)]
            go_simp
            refine hK.out _ _ hHeld (fun hHeld => ?_)
            clear hK K
            try simp only [Act.put, List.setIfInBounds_toArray, List.set_cons_zero, List.set_cons_succ]
            refine wpAnyH_ready (rs := [5]) (by kernel_rfl) (by simp) ?_
            refine AllReadyH.cons (o := { dst := some 44, op := Op.call { callee := Callee.value (Operand.func 155), args := #[], argTypes := #[] }, type := 101, pos := "store.go:194", after := #[], guard := none }) rfl (fun K hK => ?_) AllReadyH.nil
            rw [if_pos (by rfl)]
            go_simp
            go_at_call 155
            refine (Edg.cel_new _).mono ?_
            rintro e wn ⟨rfl, hwn⟩
            subst hwn
            refine hK.out _ _ (HZ1.out) (fun hHeld => ?_)
            clear hK K
            try simp only [Act.put, List.setIfInBounds_toArray, List.set_cons_zero, List.set_cons_succ]
            refine wpAnyH_ready (rs := [6]) (by kernel_rfl) (by simp) ?_
            refine AllReadyH.cons (o := { dst := some 45, op := Op.buildSlice 93 1 #[(0, Operand.tmp 44)], type := 93, pos := "store.go:194", after := #[{ on := 5, ground := Ground.data }], guard := none }) rfl (fun K hK => ?_) AllReadyH.nil
            rw [if_pos (by rfl)]
            go_simp
            refine hK.out _ _ (HZ2.out) (fun hHeld => ?_)
            clear hK K
            try simp only [Act.put, List.setIfInBounds_toArray, List.set_cons_zero, List.set_cons_succ]
            refine wpAnyH_ready (rs := [7]) (by kernel_rfl) (by simp) ?_
            refine AllReadyH.cons (o := { dst := some 46, op := Op.call { callee := Callee.builtin Builtin.append, args := #[Operand.tmp 43, Operand.tmp 45], argTypes := #[93, 93] }, type := 93, pos := "store.go:194", after := #[{ on := 4, ground := Ground.data }, { on := 6, ground := Ground.data }, { on := 5, ground := Ground.chain }], guard := none }) rfl (fun K hK => ?_) AllReadyH.nil
            refine step_append_all rfl _ _ _ rfl 0 101 je _ 1 8 Tryz.underlying93 hje hze0 hze1 hze2 rfl hpos1 q.eA q.ec (d1.es.length + k) (q.Ys.map pt) rfl HROW.out.own (some ⟨wr.heap.size + 1, 0, none⟩) 1 1 [pt wr.heap.size] rfl rfl (fun e => by cases e) (fun ad had => by cases had; exact HNEWS.out) HONE.out HMX.out HMB.out (Nat.zero_le _) ?_
            intro A3 cap3 w3 hown3 hgrow3 hat3
            have hB3 := blk_grown HB2.out HROW.out (by decide) hgrow3
            have s3 : w3.cell? ⟨s, 2, none⟩ = some (.slice q.eA (d1.es.length + k) q.ec) := (hB3.cell 2).trans HV.out
            have z3 : w3.cell? ⟨s, 0, none⟩ = some (pt q.C) := hB3.cell 0
            have sf3 := hB3.frozen 2
            have sl3 := hB3.lt
            refine hK.out _ _ z3 (fun hHeld => ?_)
            clear hK K
            try simp only [Act.put, List.setIfInBounds_toArray, List.set_cons_zero, List.set_cons_succ]
            refine wpAnyH_take (i := 8) (oi := { dst := some 47, op := Op.nilCheck (Operand.tmp 39), type := 0, pos := "store.go:194", after := #[{ on := 0, ground := Ground.data }, { on := 0, ground := Ground.phase }, { on := 1, ground := Ground.phase }, { on := 2, ground := Ground.phase }, { on := 3, ground := Ground.phase }, { on := 4, ground := Ground.phase }, { on := 5, ground := Ground.phase }, { on := 6, ground := Ground.phase }, { on := 7, ground := Ground.phase }], guard := none }) (v := ?_) rfl (by kernel_rfl) (by kernel_rfl) (by kernel_rfl) (fun _ _ _ h => h) (Or.inl ⟨by rfl, ?_⟩) hHeld ?_
            rotate_left
            · (intro W1 hSw; (try dsimp only at hSw); go_simp; first | done | (with_reducible rfl))
            try simp only [Act.put, List.setIfInBounds_toArray, List.set_cons_zero, List.set_cons_succ]
            refine wpAnyH_take (i := 9) (oi := { dst := some 48, op := Op.fieldAddr 99 (Operand.tmp 47) 2, type := 0, pos := "store.go:194", after := #[{ on := 8, ground := Ground.data }, { on := 0, ground := Ground.phase }, { on := 1, ground := Ground.phase }, { on := 2, ground := Ground.phase }, { on := 3, ground := Ground.phase }, { on := 4, ground := Ground.phase }, { on := 5, ground := Ground.phase }, { on := 6, ground := Ground.phase }, { on := 7, ground := Ground.phase }], guard := none }) (v := ?_) rfl (by kernel_rfl) (by kernel_rfl) (by kernel_rfl) (fun _ _ _ h => h) (Or.inl ⟨by rfl, ?_⟩) hHeld ?_
            rotate_left
            · (intro W1 hSw; (try dsimp only at hSw); go_simp; first | done | (with_reducible rfl))
            try simp only [Act.put, List.setIfInBounds_toArray, List.set_cons_zero, List.set_cons_succ]
            refine wpAnyH_ready (rs := [10]) (by kernel_rfl) (by simp) ?_
            refine AllReadyH.cons (o := { dst := none, op := Op.store 93 (Operand.tmp 48) (Operand.tmp 46), type := 0, pos := "store.go:194", after := #[{ on := 9, ground := Ground.data }, { on := 7, ground := Ground.data }, { on := 7, ground := Ground.chain }, { on := 0, ground := Ground.phase }, { on := 1, ground := Ground.phase }, { on := 2, ground := Ground.phase }, { on := 3, ground := Ground.phase }, { on := 4, ground := Ground.phase }, { on := 5, ground := Ground.phase }, { on := 6, ground := Ground.phase }, { on := 7, ground := Ground.phase }], guard := none }) rfl (fun K hK => ?_) AllReadyH.nil
            rw [if_pos (by rfl)]
            go_simp
            refine hK.out _ _ (by rw [World.cell?_setCell_other _ _ _ _ (by simp)]; exact z3) (fun hHeld => ?_)
            clear hK K
            try simp only [Act.put, List.setIfInBounds_toArray, List.set_cons_zero, List.set_cons_succ]
            refine wpAnyH_done (by kernel_rfl) ?_ _
            obtain ⟨o4, b4, t4, f4⟩ := field_grown 2 HO2.out HB2.out HROW.out (by decide) HS.out.sO hgrow3 hown3 hat3
            have O4 := hid o4
            have B4 := hid b4
            have T4 := hid t4
            have F4 := hid f4
            have c74 : (World.setCell w3 ⟨s, 2, none⟩ (.slice A3 (d1.es.length + k + 1) cap3)).cell? ⟨s, 3, none⟩ = some (.slice q.dA (d1.es.length + k) q.dc) := (b4.cell 3).trans (HV7.out _)
            clear s3 z3 sf3 sl3 hHeld hB3 o4 b4 t4 f4 hown3 hgrow3 hat3
            generalize World.setCell w3 _ _ = w4 at *
            have TROW : Hid (OwnO O w4 261 2 q.dA (d1.es.length + k) q.dc (encEnds (d1.ends ++ List.replicate k (0, 0)))) := HTROW.out.tfr T4.out (by decide)
            have NEW4 := hid (news_new2 w4 (.int .i64 0) (.int .i64 0) 261)
            go_wp2_with (first
              | (at_builtin
                 refine wpList_append_all (by rfl) _ _ _ (by rfl) 0 261 jd _ 2 16 Tryz.underlying94 hjd hzd0 hzd1 hzd2 rfl hpos2 q.dA q.dc (d1.es.length + k) (encEnds (d1.ends ++ List.replicate k (0, 0))) (by first | rfl | simp [Act.eval]) (TROW.out.own.alloc _) (some ⟨w4.heap.size, 0, none⟩) 1 1 [.int .i64 0, .int .i64 0] (by first | rfl | simp [Act.eval]) (by rfl) (fun e => by cases e) (fun ad had => by cases had; exact NEW4.out) ONE0.out HMX.out HMB2.out (Nat.zero_le _) ?_
                 intro A5 cap5 w5 hown5 hgrow5 hat5
                 have hB5 := blk_grown (B4.out.alloc (.cells #[.int .i64 0, .int .i64 0] 261)) (TROW.out.tfr (.of_below (below_alloc w4 (.cells #[.int .i64 0, .int .i64 0] 261))) (ts := []) (by simp)) (by decide) hgrow5
                 have s5 : w5.cell? ⟨s, 3, none⟩ = some (.slice q.dA (d1.es.length + k) q.dc) := (hB5.cell 3).trans (HV7.out _)
                 have sf5 := hB5.frozen 3
                 have sl5 := hB5.lt))
            have BA4 := below_alloc w4 (.cells #[.int .i64 0, .int .i64 0] 261)
            have HO4 : NewO O (w4.alloc (.cells #[.int .i64 0, .int .i64 0] 261)) := HO2.out.step (Nat.le_trans F4.out.size BA4.size)
            obtain ⟨o6, b6, t6, f6⟩ := field_grown 3 HO4 (B4.out.alloc (.cells #[.int .i64 0, .int .i64 0] 261)) (TROW.out.tfr (.of_below BA4) (ts := []) (by simp)) (by decide) HS.out.sO hgrow5 hown5 hat5
            have FINAL := FIN.out _ _ _ _ _ _ O4.out T4.out F4.out BA4 o6 b6 t6 f6
            clear o6 b6 t6 f6 hown5 hgrow5 hat5 hB5 s5 sf5 sl5
            have FINAL := hid FINAL
            go_roundw
            case rel => exact FINAL.out.1
            case measure => exact FINAL.out.2
          · rw [if_pos (by rfl)]
            go_simp
            go_at_call 155
            refine (Edg.cel_new _).mono ?_
            rintro e wn ⟨rfl, hwn⟩
            subst hwn
            refine hK.out _ _ (HZ1.out) (fun hHeld => ?_)
            clear hK K
            try simp only [Act.put, List.setIfInBounds_toArray, List.set_cons_zero, List.set_cons_succ]
            refine wpAnyH_ready (rs := [4, 6]) (by kernel_rfl) (by simp) ?_
            refine AllReadyH.cons (o := { dst := some 43, op := Op.load 93 (Operand.tmp 42), type := 93, pos := "store.go:194", after := #[{ on := 3, ground := Ground.data }], guard := none }) rfl (fun K hK => ?_) (AllReadyH.cons (o := { dst := some 45, op := Op.buildSlice 93 1 #[(0, Operand.tmp 44)], type := 93, pos := "store.go:194", after := #[{ on := 5, ground := Ground.data }], guard := none }) rfl (fun K hK => ?_) AllReadyH.nil)
            · rw [if_pos (by rfl)]
              go_simp
              refine hK.out _ _ hHeld (fun hHeld => ?_)
              clear hK K
              try simp only [Act.put, List.setIfInBounds_toArray, List.set_cons_zero, List.set_cons_succ]
              refine wpAnyH_ready (rs := [6]) (by kernel_rfl) (by simp) ?_
              refine AllReadyH.cons (o := { dst := some 45, op := Op.buildSlice 93 1 #[(0, Operand.tmp 44)], type := 93, pos := "store.go:194", after := #[{ on := 5, ground := Ground.data }], guard := none }) rfl (fun K hK => ?_) AllReadyH.nil
              rw [if_pos (by rfl)]
              go_simp
              refine hK.out _ _ (HZ2.out) (fun hHeld => ?_)
              clear hK K
              try simp only [Act.put, List.setIfInBounds_toArray, List.set_cons_zero, List.set_cons_succ]
              refine wpAnyH_ready (rs := [7]) (by kernel_rfl) (by simp) ?_
              refine AllReadyH.cons (o := { dst := some 46, op := Op.call { callee := Callee.builtin Builtin.append, args := #[Operand.tmp 43, Operand.tmp 45], argTypes := #[93, 93] }, type := 93, pos := "store.go:194", after := #[{ on := 4, ground := Ground.data }, { on := 6, ground := Ground.data }, { on := 5, ground := Ground.chain }], guard := none }) rfl (fun K hK => ?_) AllReadyH.nil
              refine step_append_all rfl _ _ _ rfl 0 101 je _ 1 8 Tryz.underlying93 hje hze0 hze1 hze2 rfl hpos1 q.eA q.ec (d1.es.length + k) (q.Ys.map pt) rfl HROW.out.own (some ⟨wr.heap.size + 1, 0, none⟩) 1 1 [pt wr.heap.size] rfl rfl (fun e => by cases e) (fun ad had => by cases had; exact HNEWS.out) HONE.out HMX.out HMB.out (Nat.zero_le _) ?_
              intro A3 cap3 w3 hown3 hgrow3 hat3
              have hB3 := blk_grown HB2.out HROW.out (by decide) hgrow3
              have s3 : w3.cell? ⟨s, 2, none⟩ = some (.slice q.eA (d1.es.length + k) q.ec) := (hB3.cell 2).trans HV.out
              have z3 : w3.cell? ⟨s, 0, none⟩ = some (pt q.C) := hB3.cell 0
              have sf3 := hB3.frozen 2
              have sl3 := hB3.lt
              refine hK.out _ _ z3 (fun hHeld => ?_)
              clear hK K
              try simp only [Act.put, List.setIfInBounds_toArray, List.set_cons_zero, List.set_cons_succ]
              refine wpAnyH_take (i := 8) (oi := { dst := some 47, op := Op.nilCheck (Operand.tmp 39), type := 0, pos := "store.go:194", after := #[{ on := 0, ground := Ground.data }, { on := 0, ground := Ground.phase }, { on := 1, ground := Ground.phase }, { on := 2, ground := Ground.phase }, { on := 3, ground := Ground.phase }, { on := 4, ground := Ground.phase }, { on := 5, ground := Ground.phase }, { on := 6, ground := Ground.phase }, { on := 7, ground := Ground.phase }], guard := none }) (v := ?_) rfl (by kernel_rfl) (by kernel_rfl) (by kernel_rfl) (fun _ _ _ h => h) (Or.inl ⟨by rfl, ?_⟩) hHeld ?_
              rotate_left
              · (intro W1 hSw; (try dsimp only at hSw); go_simp; first | done | (with_reducible rfl))
              try simp only [Act.put, List.setIfInBounds_toArray, List.set_cons_zero, List.set_cons_succ]
              refine wpAnyH_take (i := 9) (oi := { dst := some 48, op := Op.fieldAddr 99 (Operand.tmp 47) 2, type := 0, pos := "store.go:194", after := #[{ on := 8, ground := Ground.data }, { on := 0, ground := Ground.phase }, { on := 1, ground := Ground.phase }, { on := 2, ground := Ground.phase }, { on := 3, ground := Ground.phase }, { on := 4, ground := Ground.phase }, { on := 5, ground := Ground.phase }, { on := 6, ground := Ground.phase }, { on := 7, ground := Ground.phase }], guard := none }) (v := ?_) rfl (by kernel_rfl) (by kernel_rfl) (by kernel_rfl) (fun _ _ _ h => h) (Or.inl ⟨by rfl, ?_⟩) hHeld ?_
              rotate_left
              · (intro W1 hSw; (try dsimp only at hSw); go_simp; first | done | (with_reducible rfl))
              try simp only [Act.put, List.setIfInBounds_toArray, List.set_cons_zero, List.set_cons_succ]
              refine wpAnyH_ready (rs := [10]) (by kernel_rfl) (by simp) ?_
              refine AllReadyH.cons (o := { dst := none, op := Op.store 93 (Operand.tmp 48) (Operand.tmp 46), type := 0, pos := "store.go:194", after := #[{ on := 9, ground := Ground.data }, { on := 7, ground := Ground.data }, { on := 7, ground := Ground.chain }, { on := 0, ground := Ground.phase }, { on := 1, ground := Ground.phase }, { on := 2, ground := Ground.phase }, { on := 3, ground := Ground.phase }, { on := 4, ground := Ground.phase }, { on := 5, ground := Ground.phase }, { on := 6, ground := Ground.phase }, { on := 7, ground := Ground.phase }], guard := none }) rfl (fun K hK => ?_) AllReadyH.nil
              rw [if_pos (by rfl)]
              go_simp
              refine hK.out _ _ (by rw [World.cell?_setCell_other _ _ _ _ (by simp)]; exact z3) (fun hHeld => ?_)
              clear hK K
              try simp only [Act.put, List.setIfInBounds_toArray, List.set_cons_zero, List.set_cons_succ]
              refine wpAnyH_done (by kernel_rfl) ?_ _
              obtain ⟨o4, b4, t4, f4⟩ := field_grown 2 HO2.out HB2.out HROW.out (by decide) HS.out.sO hgrow3 hown3 hat3
              have O4 := hid o4
              have B4 := hid b4
              have T4 := hid t4
              have F4 := hid f4
              have c74 : (World.setCell w3 ⟨s, 2, none⟩ (.slice A3 (d1.es.length + k + 1) cap3)).cell? ⟨s, 3, none⟩ = some (.slice q.dA (d1.es.length + k) q.dc) := (b4.cell 3).trans (HV7.out _)
              clear s3 z3 sf3 sl3 hHeld hB3 o4 b4 t4 f4 hown3 hgrow3 hat3
              generalize World.setCell w3 _ _ = w4 at *
              have TROW : Hid (OwnO O w4 261 2 q.dA (d1.es.length + k) q.dc (encEnds (d1.ends ++ List.replicate k (0, 0)))) := HTROW.out.tfr T4.out (by decide)
              have NEW4 := hid (news_new2 w4 (.int .i64 0) (.int .i64 0) 261)
              go_wp2_with (first
                | (at_builtin
                   refine wpList_append_all (by rfl) _ _ _ (by rfl) 0 261 jd _ 2 16 Tryz.underlying94 hjd hzd0 hzd1 hzd2 rfl hpos2 q.dA q.dc (d1.es.length + k) (encEnds (d1.ends ++ List.replicate k (0, 0))) (by first | rfl | simp [Act.eval]) (TROW.out.own.alloc _) (some ⟨w4.heap.size, 0, none⟩) 1 1 [.int .i64 0, .int .i64 0] (by first | rfl | simp [Act.eval]) (by rfl) (fun e => by cases e) (fun ad had => by cases had; exact NEW4.out) ONE0.out HMX.out HMB2.out (Nat.zero_le _) ?_
                   intro A5 cap5 w5 hown5 hgrow5 hat5
                   have hB5 := blk_grown (B4.out.alloc (.cells #[.int .i64 0, .int .i64 0] 261)) (TROW.out.tfr (.of_below (below_alloc w4 (.cells #[.int .i64 0, .int .i64 0] 261))) (ts := []) (by simp)) (by decide) hgrow5
                   have s5 : w5.cell? ⟨s, 3, none⟩ = some (.slice q.dA (d1.es.length + k) q.dc) := (hB5.cell 3).trans (HV7.out _)
                   have sf5 := hB5.frozen 3
                   have sl5 := hB5.lt))
              have BA4 := below_alloc w4 (.cells #[.int .i64 0, .int .i64 0] 261)
              have HO4 : NewO O (w4.alloc (.cells #[.int .i64 0, .int .i64 0] 261)) := HO2.out.step (Nat.le_trans F4.out.size BA4.size)
              obtain ⟨o6, b6, t6, f6⟩ := field_grown 3 HO4 (B4.out.alloc (.cells #[.int .i64 0, .int .i64 0] 261)) (TROW.out.tfr (.of_below BA4) (ts := []) (by simp)) (by decide) HS.out.sO hgrow5 hown5 hat5
              have FINAL := FIN.out _ _ _ _ _ _ O4.out T4.out F4.out BA4 o6 b6 t6 f6
              clear o6 b6 t6 f6 hown5 hgrow5 hat5 hB5 s5 sf5 sl5
              have FINAL := hid FINAL
              go_roundw
              case rel => exact FINAL.out.1
              case measure => exact FINAL.out.2
            · rw [if_pos (by rfl)]
              go_simp
              refine hK.out _ _ (HZ2.out) (fun hHeld => ?_)
              clear hK K
              try simp only [Act.put, List.setIfInBounds_toArray, List.set_cons_zero, List.set_cons_succ]
              refine wpAnyH_ready (rs := [4]) (by kernel_rfl) (by simp) ?_
              refine AllReadyH.cons (o := { dst := some 43, op := Op.load 93 (Operand.tmp 42), type := 93, pos := "store.go:194", after := #[{ on := 3, ground := Ground.data }], guard := none }) rfl (fun K hK => ?_) AllReadyH.nil
              rw [if_pos (by rfl)]
              go_simp
              refine hK.out _ _ hHeld (fun hHeld => ?_)
              clear hK K
              try simp only [Act.put, List.setIfInBounds_toArray, List.set_cons_zero, List.set_cons_succ]
              refine wpAnyH_ready (rs := [7]) (by kernel_rfl) (by simp) ?_
              refine AllReadyH.cons (o := { dst := some 46, op := Op.call { callee := Callee.builtin Builtin.append, args := #[Operand.tmp 43, Operand.tmp 45], argTypes := #[93, 93] }, type := 93, pos := "store.go:194", after := #[{ on := 4, ground := Ground.data }, { on := 6, ground := Ground.data }, { on := 5, ground := Ground.chain }], guard := none }) rfl (fun K hK => ?_) AllReadyH.nil
              refine step_append_all rfl _ _ _ rfl 0 101 je _ 1 8 Tryz.underlying93 hje hze0 hze1 hze2 rfl hpos1 q.eA q.ec (d1.es.length + k) (q.Ys.map pt) rfl HROW.out.own (some ⟨wr.heap.size + 1, 0, none⟩) 1 1 [pt wr.heap.size] rfl rfl (fun e => by cases e) (fun ad had => by cases had; exact HNEWS.out) HONE.out HMX.out HMB.out (Nat.zero_le _) ?_
              intro A3 cap3 w3 hown3 hgrow3 hat3
              have hB3 := blk_grown HB2.out HROW.out (by decide) hgrow3
              have s3 : w3.cell? ⟨s, 2, none⟩ = some (.slice q.eA (d1.es.length + k) q.ec) := (hB3.cell 2).trans HV.out
              have z3 : w3.cell? ⟨s, 0, none⟩ = some (pt q.C) := hB3.cell 0
              have sf3 := hB3.frozen 2
              have sl3 := hB3.lt
              refine hK.out _ _ z3 (fun hHeld => ?_)
              clear hK K
              try simp only [Act.put, List.setIfInBounds_toArray, List.set_cons_zero, List.set_cons_succ]
              refine wpAnyH_take (i := 8) (oi := { dst := some 47, op := Op.nilCheck (Operand.tmp 39), type := 0, pos := "store.go:194", after := #[{ on := 0, ground := Ground.data }, { on := 0, ground := Ground.phase }, { on := 1, ground := Ground.phase }, { on := 2, ground := Ground.phase }, { on := 3, ground := Ground.phase }, { on := 4, ground := Ground.phase }, { on := 5, ground := Ground.phase }, { on := 6, ground := Ground.phase }, { on := 7, ground := Ground.phase }], guard := none }) (v := ?_) rfl (by kernel_rfl) (by kernel_rfl) (by kernel_rfl) (fun _ _ _ h => h) (Or.inl ⟨by rfl, ?_⟩) hHeld ?_
              rotate_left
              · (intro W1 hSw; (try dsimp only at hSw); go_simp; first | done | (with_reducible rfl))
              try simp only [Act.put, List.setIfInBounds_toArray, List.set_cons_zero, List.set_cons_succ]
              refine wpAnyH_take (i := 9) (oi := { dst := some 48, op := Op.fieldAddr 99 (Operand.tmp 47) 2, type := 0, pos := "store.go:194", after := #[{ on := 8, ground := Ground.data }, { on := 0, ground := Ground.phase }, { on := 1, ground := Ground.phase }, { on := 2, ground := Ground.phase }, { on := 3, ground := Ground.phase }, { on := 4, ground := Ground.phase }, { on := 5, ground := Ground.phase }, { on := 6, ground := Ground.phase }, { on := 7, ground := Ground.phase }], guard := none }) (v := ?_) rfl (by kernel_rfl) (by kernel_rfl) (by kernel_rfl) (fun _ _ _ h => h) (Or.inl ⟨by rfl, ?_⟩) hHeld ?_
              rotate_left
              · (intro W1 hSw; (try dsimp only at hSw); go_simp; first | done | (with_reducible rfl))
              try simp only [Act.put, List.setIfInBounds_toArray, List.set_cons_zero, List.set_cons_succ]
              refine wpAnyH_ready (rs := [10]) (by kernel_rfl) (by simp) ?_
              refine AllReadyH.cons (o := { dst := none, op := Op.store 93 (Operand.tmp 48) (Operand.tmp 46), type := 0, pos := "store.go:194", after := #[{ on := 9, ground := Ground.data }, { on := 7, ground := Ground.data }, { on := 7, ground := Ground.chain }, { on := 0, ground := Ground.phase }, { on := 1, ground := Ground.phase }, { on := 2, ground := Ground.phase }, { on := 3, ground := Ground.phase }, { on := 4, ground := Ground.phase }, { on := 5, ground := Ground.phase }, { on := 6, ground := Ground.phase }, { on := 7, ground := Ground.phase }], guard := none }) rfl (fun K hK => ?_) AllReadyH.nil
              rw [if_pos (by rfl)]
              go_simp
              refine hK.out _ _ (by rw [World.cell?_setCell_other _ _ _ _ (by simp)]; exact z3) (fun hHeld => ?_)
              clear hK K
              try simp only [Act.put, List.setIfInBounds_toArray, List.set_cons_zero, List.set_cons_succ]
              refine wpAnyH_done (by kernel_rfl) ?_ _
              obtain ⟨o4, b4, t4, f4⟩ := field_grown 2 HO2.out HB2.out HROW.out (by decide) HS.out.sO hgrow3 hown3 hat3
              have O4 := hid o4
              have B4 := hid b4
              have T4 := hid t4
              have F4 := hid f4
              have c74 : (World.setCell w3 ⟨s, 2, none⟩ (.slice A3 (d1.es.length + k + 1) cap3)).cell? ⟨s, 3, none⟩ = some (.slice q.dA (d1.es.length + k) q.dc) := (b4.cell 3).trans (HV7.out _)
              clear s3 z3 sf3 sl3 hHeld hB3 o4 b4 t4 f4 hown3 hgrow3 hat3
              generalize World.setCell w3 _ _ = w4 at *
              have TROW : Hid (OwnO O w4 261 2 q.dA (d1.es.length + k) q.dc (encEnds (d1.ends ++ List.replicate k (0, 0)))) := HTROW.out.tfr T4.out (by decide)
              have NEW4 := hid (news_new2 w4 (.int .i64 0) (.int .i64 0) 261)
              go_wp2_with (first
                | (at_builtin
                   refine wpList_append_all (by rfl) _ _ _ (by rfl) 0 261 jd _ 2 16 Tryz.underlying94 hjd hzd0 hzd1 hzd2 rfl hpos2 q.dA q.dc (d1.es.length + k) (encEnds (d1.ends ++ List.replicate k (0, 0))) (by first | rfl | simp [Act.eval]) (TROW.out.own.alloc _) (some ⟨w4.heap.size, 0, none⟩) 1 1 [.int .i64 0, .int .i64 0] (by first | rfl | simp [Act.eval]) (by rfl) (fun e => by cases e) (fun ad had => by cases had; exact NEW4.out) ONE0.out HMX.out HMB2.out (Nat.zero_le _) ?_
                   intro A5 cap5 w5 hown5 hgrow5 hat5
                   have hB5 := blk_grown (B4.out.alloc (.cells #[.int .i64 0, .int .i64 0] 261)) (TROW.out.tfr (.of_below (below_alloc w4 (.cells #[.int .i64 0, .int .i64 0] 261))) (ts := []) (by simp)) (by decide) hgrow5
                   have s5 : w5.cell? ⟨s, 3, none⟩ = some (.slice q.dA (d1.es.length + k) q.dc) := (hB5.cell 3).trans (HV7.out _)
                   have sf5 := hB5.frozen 3
                   have sl5 := hB5.lt))
              have BA4 := below_alloc w4 (.cells #[.int .i64 0, .int .i64 0] 261)
              have HO4 : NewO O (w4.alloc (.cells #[.int .i64 0, .int .i64 0] 261)) := HO2.out.step (Nat.le_trans F4.out.size BA4.size)
              obtain ⟨o6, b6, t6, f6⟩ := field_grown 3 HO4 (B4.out.alloc (.cells #[.int .i64 0, .int .i64 0] 261)) (TROW.out.tfr (.of_below BA4) (ts := []) (by simp)) (by decide) HS.out.sO hgrow5 hown5 hat5
              have FINAL := FIN.out _ _ _ _ _ _ O4.out T4.out F4.out BA4 o6 b6 t6 f6
              clear o6 b6 t6 f6 hown5 hgrow5 hat5 hB5 s5 sf5 sl5
              have FINAL := hid FINAL
              go_roundw
              case rel => exact FINAL.out.1
              case measure => exact FINAL.out.2
          -- END REGION grows4
        · have hkb : k = b - d1.es.length := by omega
          subst hkb
          have hlI : ¬ (((d1.es.length + (b - d1.es.length) : Nat) : Int) < (b : Int)) := by omega
          have hlI' : decide (d1.es.length + (b - d1.es.length) < b) = false := by simpa using hlt
          clear c3 hnl
          go_wp2_with fail
          go_end0
          have := HS.out
          rw [HD1.out] at this
          exact ⟨⟨_, rfl⟩, ⟨q, this⟩, HW.out, HT.out⟩
end
end Go.Proofs.YtdfkdgnhpdgphaaGreatDoor

/-
  A store: Begin, Commit, AddNode (of nothing).
-/
namespace Go.Proofs.YtdfkdgnhpdgphaaGreatDoor
open Go.RowKit Go.Proofs.Lig

section
variable {O : Nat → Prop} {w w' : World} {s : Nat} {p : StoP} {d : StoD}
set_option maxRecDepth 100000 in
theorem FrO.of_frS {S : List Nat} {t : List TypeId} (hf : Fr S w w') (hs : ∀ k ∈ S, O k) (hT : ∀ k ∈ S, ∃ cs t' fr, w.heap[k]? = some (.cells cs t' fr) ∧ t' ∈ t) : FrO O w w' ∧ TFr t w w' := ⟨.of_fr hf hs, .of_fr hf hT⟩
theorem sto_begin (h : StoA O w s p d) (hO : NewO O w) (hf : d.c.count < 4) (hn : d.c.l.length ≤ 1000000) (v : Int) (hv : (d.c.l.length : Int) + 1 = v) :
    Calls Tryz.prog 55 #[pt s] w fun e w' => e = .returned (.tuple #[.int .i64 v, .int .i64 0]) ∧ StoA O w' s p { d with c := d.c.began } ∧ FrO O w w' ∧ TFr stoT w w' := by
  obtain ⟨S, hc, hS⟩ := h.clk
  have HB := hid (begin_S w p.C S d.c hc hf hn v hv)
  have c0 := h.c0
  have HH := hid h
  have HO := hid hO
  have HC := hid hc
  have HS := hid hS
  clear h hO hc hS hv
  go_enter Tryz.func55, Tryz.ntmps55
  go_wp2_with fail
  refine HB.out.mono ?_
  rintro e w1 ⟨rfl, S', q1, q2, q3⟩
  have Q := hid (HH.out.onClk HC.out q1 q2 q3 HO.out HS.out HH.out.good.began)
  have F := hid (FrO.of_frS q3 HS.out HC.out.typed)
  clear q1 q2 q3
  go_wp2_with fail
  go_ret2
  exact ⟨rfl, Q.out, F.out.1, F.out.2.mono (by decide)⟩
set_option maxRecDepth 100000 in
theorem sto_commit (h : StoA O w s p d) (hO : NewO O w) (t : Int) (hl : d.c.live t = true) (hn : d.c.n ≤ 1000000) :
    Calls Tryz.prog 123 #[pt s, .int .i64 t] w fun e w' => e = .returned (.int .i64 0) ∧ StoA O w' s p { d with c := d.c.committed t } ∧ FrO O w w' ∧ TFr stoT w w' := by
  obtain ⟨S, hc, hS⟩ := h.clk
  have HB := hid (commit_S w p.C S d.c t hc hl hn)
  have c0 := h.c0
  have HH := hid h
  have HO := hid hO
  have HC := hid hc
  have HS := hid hS
  clear h hO hc hS hl
  go_enter Tryz.func123, Tryz.ntmps123
  go_wp2_with fail
  refine HB.out.mono ?_
  rintro e w1 ⟨rfl, q1, q3⟩
  have Q := hid (HH.out.onClk HC.out q1 (Sub.refl _ _) q3 HO.out HS.out (HH.out.good.committed t))
  have F := hid (FrO.of_frS q3 HS.out HC.out.typed)
  clear q1 q3
  go_wp2_with fail
  go_ret
  exact ⟨rfl, Q.out, F.out.1, F.out.2.mono (by decide)⟩
set_option maxRecDepth 100000 in
theorem areNames_nil (w : World) : Calls Tryz.prog 274 #[.slice none 0 0, .int .i64 3] w fun e w' => e = .returned (.bool true) ∧ w = w' := by
  go_enter Tryz.func274, Tryz.ntmps274
  go_wp2_with fail
  go_loopw [9] (fun i wr => i = .int .i64 0 ∧ w = wr) (fun _ _ => 1)
  case atStart => exact ⟨rfl, rfl⟩
  case round =>
    obtain ⟨rfl, rfl⟩ := hrel
    go_wp2_with fail
    go_ret
    exact ⟨rfl, rfl⟩
set_option maxRecDepth 100000 in
theorem isNode_bare (w : World) : Calls Tryz.prog 214 #[nodVal] w fun e w' => e = .returned (.bool true) ∧ Below w.heap.size w w' := by
  have B1 := hid (below_alloc w (.cells #[.slice none 0 0, .slice none 0 0] 35))
  go_enter Tryz.func214, Tryz.ntmps214
  go_wp2_with fail
  go_loopw [3, 9] (fun v i wr => v = .slice none 0 0 ∧ i = .int .i64 0 ∧ w.alloc (.cells #[.slice none 0 0, .slice none 0 0] 35) = wr) (fun _ _ _ => 1)
  case atStart => exact ⟨rfl, rfl, rfl⟩
  case round =>
    obtain ⟨rfl, rfl, rfl⟩ := hrel
    go_wp2_with fail
    refine (areNames_nil _).mono ?_
    rintro e wn ⟨rfl, rfl⟩
    go_wp2_with fail
    refine (areNames_nil _).mono ?_
    rintro e wn ⟨rfl, rfl⟩
    go_wp2_with fail
    go_ret
    exact ⟨rfl, B1.out⟩

set_option maxHeartbeats 2000000 in
set_option maxRecDepth 100000 in
theorem sto_addNode (h : StoA O w s p d) (hO : NewO O w) (t : Int) (hl : d.c.live t = true) (hn : d.ns.length < 24) (v : Int) (hv : (d.ns.length : Int) + 1 = v) :
    Calls Tryz.prog 128 #[pt s, .int .i64 t, nodVal] w fun e w' => e = .returned (.tuple #[.int .i64 v, .int .i64 0]) ∧ Sto O w' s { d with ns := d.ns ++ [[⟨t, e0, false⟩]] } ∧ FrO O w w' ∧ TFr stoT w w' := by
  have B1 := hid (below_alloc w (.cells #[.slice none 0 0, .slice none 0 0] 35))
  have K1 := hid (Blk.new w 35 [.slice none 0 0, .slice none 0 0])
  have H1 := hid (h.below B1.out)
  have HO := hid hO
  have HL := hid (sto_isLive H1.out t true hl)
  have HN := hid hn
  have HV := hid hv
  have HLV := hid hl
  clear h hO hv hl hn
  go_enter Tryz.func128, Tryz.ntmps128
  go_wp2_with fail
  refine HL.out.mono ?_
  rintro e w1 ⟨rfl, rfl⟩
  go_wp2_with fail
  refine (isNode_bare _).mono ?_
  rintro e w2 ⟨rfl, b2⟩
  have H2 := hid (H1.out.below b2)
  have B2 := hid (bstep B1.out (Nat.le_refl _) b2)
  have K2 := hid (K1.out.below b2 K1.out.lt)
  have c1 := H2.out.c1
  have hnI : ¬ ((24 : Int) ≤ (d.ns.length : Int)) := by have := HN.out; omega
  have hnN : decide (24 ≤ d.ns.length) = false := by have := HN.out; simp; omega
  have hnm : (d.ns.length : Int) ≤ 23 := by have := HN.out; omega
  have HG := hid (sto_grows H2.out (HO.out.step B2.out.size) (d.ns.length + 1) 0 (by have := HN.out; omega) (by omega))
  clear b2 B1 H1 HL
  go_wp2_with fail
  refine HG.out.mono ?_
  rintro e w3 ⟨⟨u, rfl⟩, ⟨p3, z1⟩, z2, z3⟩
  have e1 : d.ns.length + 1 - d.ns.length = 1 := by omega
  have e2 : 0 - d.es.length = 0 := by omega
  rw [e1, e2] at z1
  simp only [List.replicate_one, List.replicate_zero, List.append_nil] at z1
  have H3 := hid z1
  have F3 := hid ((FrO.of_below B2.out).trans z2)
  have T3 := hid ((TFr.of_below (ts := stoT) B2.out).trans z3)
  have K3 := hid (K2.out.tfr z3 (by decide))
  have k0 : w3.cell? ⟨w.heap.size, 0, none⟩ = some (.slice none 0 0) := K3.out.cell 0
  have k1 : w3.cell? ⟨w.heap.size, 1, none⟩ = some (.slice none 0 0) := K3.out.cell 1
  have c3 := H3.out.c1
  simp only [List.length_append, List.length_singleton] at c3
  have HP := hid (fun n => sto_puts (H3.out.drewN n) (HO.out.step F3.out.size) t d.ns.length [] (by simp) false (by rfl) (by simp))
  clear z1 z2 z3 c1 HG K2 H2
  go_wp2_with fail
  go_region_held3 (fun W => W.cell? ⟨s, 1, none⟩ = some (.slice p3.nA (d.ns.length + 1) p3.nc) ∧ W.cell? ⟨w.heap.size, 0, none⟩ = some (.slice none 0 0) ∧ W.cell? ⟨w.heap.size, 1, none⟩ = some (.slice none 0 0))
    (first
      | exact ⟨c3, k0, k1⟩
      | exact ⟨q5, q6, q7⟩
      | go_keep)
    (first
      | (go_at_call 82
         refine (HP.out 1).mono ?_
         rintro e w4 ⟨⟨u, rfl⟩, q1, q2, q3⟩
         have q5 := q1.c1
         simp only [List.length_set, List.length_append, List.length_singleton] at q5
         have q6 : w4.cell? ⟨w.heap.size, 0, none⟩ = some (.slice none 0 0) := ((K3.out.drewN 1).tfr q3 (by decide)).cell 0
         have q7 : w4.cell? ⟨w.heap.size, 1, none⟩ = some (.slice none 0 0) := ((K3.out.drewN 1).tfr q3 (by decide)).cell 1))
  have H4 := hid q1
  have F4 := hid ((F3.out.drewN 1).trans q2)
  have T4 := hid ((T3.out.trans (.of_below (below_drewN' _ 1))).trans q3)
  clear q1 q2 q3 q6 q7 k0 k1 c3
  go_wp2_with fail
  go_ret2
  refine ⟨by rw [← HV.out]; rfl, ⟨p3, ?_⟩, F4.out, T4.out⟩
  have := H4.out
  have e : (d.ns ++ [[]]).set d.ns.length (Cel.written [] t e0 false) = d.ns ++ [[⟨t, e0, false⟩]] := by
    rw [List.set_append_right _ _ (Nat.le_refl _)]
    simp [Cel.written, Cel.mine]
  rw [e] at this
  exact this
end
end Go.Proofs.YtdfkdgnhpdgphaaGreatDoor
