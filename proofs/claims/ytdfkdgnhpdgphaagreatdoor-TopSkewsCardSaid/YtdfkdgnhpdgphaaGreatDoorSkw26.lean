/-
  A store: chained, Out, In.
-/
import Derived.Test.YtdfkdgnhpdgphaaGreatDoorSkw23
import Derived.Test.YtdfkdgnhpdgphaaGreatDoorSkw24
import Derived.Test.YtdfkdgnhpdgphaaGreatDoorSkw25
import Derived.Laws.EntriesVeiled
namespace Go.Proofs.YtdfkdgnhpdgphaaGreatDoor
open Go.RowKit Go.Proofs.Lig
attribute [local go_sem] run_store_float

section
variable {O : Nat → Prop} {w w' : World} {s : Nat} {p : StoP} {d : StoD}
set_option maxRecDepth 100000 in
theorem StoA.edgeAt (h : StoA O w s p d) (id : Int) (l : List (Ver EdgV)) (hl : d.es[id.toNat - 1]? = some l) : ∃ X S, p.Ys[id.toNat - 1]? = some X ∧ Edg.CelS w X S l := by
  obtain ⟨X, S, h2, h3, _⟩ := h.onEdge hl
  exact ⟨X, S, h2, h3⟩
set_option maxRecDepth 100000 in
theorem edg_read (h : StoA O w s p d) {X : Nat} {S : List Nat} {l : List (Ver EdgV)} (hX : Edg.CelS w X S l) (t : Int) (v : EdgV) (ok : Bool) (hv : (Cel.lastBy (d.c.sees t) l).getD ⟨0, 0, ⟨#[]⟩, 0⟩ = v) (hok : (Cel.lastBy (d.c.sees t) l).isSome = ok) :
    Calls Tryz.prog 209 #[pt X, pt p.C, .int .i64 t] w fun e w' => e = .returned (.tuple #[.agg #[.int .i64 v.src, .int .i64 v.dst, .string v.ty, .float .f64 v.w], .bool ok]) ∧ Below w.heap.size w w' := by
  obtain ⟨SC, hc, _⟩ := h.clk
  obtain ⟨A, cap, hX, _⟩ := hX
  exact Edg.read_S w X A cap l p.C SC d.c t hX hc h.good v ok hv hok

set_option maxHeartbeats 2000000 in
set_option maxRecDepth 100000 in
theorem sto_chained1 (h : StoA O w s p d) (t id : Int) (h1 : 1 ≤ id) (l : List (Ver EdgV)) (hl : d.es[id.toNat - 1]? = some l) (ok : Bool) (hok : (Cel.lastBy (d.c.sees t) l).isSome = ok) (Bs Bt : Nat) (hs : Blk w Bs 56 [pt s]) (ht : Blk w Bt 3 [.int .i64 t]) :
    Calls Tryz.prog 278 #[.int .i64 id, pt Bs, pt Bt] w fun e w' => e = .returned (.bool (!ok)) ∧ Below w.heap.size w w' := by
  obtain ⟨X, S, hX, hC⟩ := h.edgeAt id l hl
  obtain ⟨v, hv⟩ : ∃ v, (Cel.lastBy (d.c.sees t) l).getD ⟨0, 0, ⟨#[]⟩, 0⟩ = v := ⟨_, rfl⟩
  have HN := hid (fun W (hW : Below w.heap.size w W) => sto_edge (h.below hW) id X h1 hX)
  have HR := hid (fun W (hW : Below w.heap.size w W) => edg_read (h.below hW) (hC.tfr (ts := []) (.of_below hW) (by simp)) t v ok hv hok)
  have B1 := below_drewN' w 1
  have B2 := hid (B1.alloc (o := .cells #[.int .i64 0, .int .i64 0, .string ⟨#[]⟩, .float .f64 0] 38) (by simp))
  have c0 := h.c0
  have cs : w.cell? ⟨Bs, 0, none⟩ = some (pt s) := hs.cell 0
  have ct : w.cell? ⟨Bt, 0, none⟩ = some (.int .i64 t) := ht.cell 0
  have hlt := h.blk.lt
  have hls := hs.lt
  have hlbt := ht.lt
  clear h hX hC hok hl h1 hv hs ht
  go_enter Tryz.func278, Tryz.ntmps278
  go_wp2_with fail
  -- REGION chained1
  refine wp_region_held_drew (S := fun W => W.cell? ⟨s, 0, none⟩ = some (pt p.C) ∧ W.cell? ⟨Bs, 0, none⟩ = some (pt s) ∧ W.cell? ⟨Bt, 0, none⟩ = some (.int .i64 t)) (by kernel_rfl) ⟨c0, cs, ct⟩ (fun hHeld => ?_)
  refine wpAnyH_take (i := 0) (oi := { dst := some 8, op := Op.load 56 (Operand.tmp 1), type := 56, pos := "store.go:340", after := #[], guard := none }) (v := ?_) rfl (by kernel_rfl) (by kernel_rfl) (by kernel_rfl) (fun _ _ _ h => h) (Or.inl ⟨by rfl, ?_⟩) hHeld ?_
  rotate_left
  · (intro W1 hSw; (try dsimp only at hSw); go_simp; first | done | (with_reducible rfl))
  try simp only [Act.put, List.setIfInBounds_toArray, List.set_cons_zero, List.set_cons_succ]
  refine wpAnyH_take (i := 1) (oi := { dst := some 9, op := Op.move (Operand.tmp 0), type := 3, pos := "store.go:340", after := #[], guard := none }) (v := ?_) rfl (by kernel_rfl) (by kernel_rfl) (by kernel_rfl) (fun _ _ _ h => h) (Or.inl ⟨by rfl, ?_⟩) hHeld ?_
  rotate_left
  · (intro W1 hSw; (try dsimp only at hSw); go_simp; first | done | (with_reducible rfl))
  try simp only [Act.put, List.setIfInBounds_toArray, List.set_cons_zero, List.set_cons_succ]
  refine wpAnyH_take (i := 3) (oi := { dst := some 11, op := Op.load 56 (Operand.tmp 1), type := 56, pos := "store.go:340", after := #[], guard := none }) (v := ?_) rfl (by kernel_rfl) (by kernel_rfl) (by kernel_rfl) (fun _ _ _ h => h) (Or.inl ⟨by rfl, ?_⟩) hHeld ?_
  rotate_left
  · (intro W1 hSw; (try dsimp only at hSw); go_simp; first | done | (with_reducible rfl))
  try simp only [Act.put, List.setIfInBounds_toArray, List.set_cons_zero, List.set_cons_succ]
  refine wpAnyH_take (i := 4) (oi := { dst := some 12, op := Op.nilCheck (Operand.tmp 11), type := 0, pos := "store.go:340", after := #[{ on := 3, ground := Ground.data }], guard := none }) (v := ?_) rfl (by kernel_rfl) (by kernel_rfl) (by kernel_rfl) (fun _ _ _ h => h) (Or.inl ⟨by rfl, ?_⟩) hHeld ?_
  rotate_left
  · (intro W1 hSw; (try dsimp only at hSw); go_simp; first | done | (with_reducible rfl))
  try simp only [Act.put, List.setIfInBounds_toArray, List.set_cons_zero, List.set_cons_succ]
  refine wpAnyH_take (i := 5) (oi := { dst := some 13, op := Op.fieldAddr 99 (Operand.tmp 12) 0, type := 0, pos := "store.go:340", after := #[{ on := 4, ground := Ground.data }], guard := none }) (v := ?_) rfl (by kernel_rfl) (by kernel_rfl) (by kernel_rfl) (fun _ _ _ h => h) (Or.inl ⟨by rfl, ?_⟩) hHeld ?_
  rotate_left
  · (intro W1 hSw; (try dsimp only at hSw); go_simp; first | done | (with_reducible rfl))
  try simp only [Act.put, List.setIfInBounds_toArray, List.set_cons_zero, List.set_cons_succ]
  refine wpAnyH_take (i := 6) (oi := { dst := some 14, op := Op.load 91 (Operand.tmp 13), type := 91, pos := "store.go:340", after := #[{ on := 5, ground := Ground.data }], guard := none }) (v := ?_) rfl (by kernel_rfl) (by kernel_rfl) (by kernel_rfl) (fun _ _ _ h => h) (Or.inl ⟨by rfl, ?_⟩) hHeld ?_
  rotate_left
  · (intro W1 hSw; (try dsimp only at hSw); go_simp; first | done | (with_reducible rfl))
  try simp only [Act.put, List.setIfInBounds_toArray, List.set_cons_zero, List.set_cons_succ]
  refine wpAnyH_take (i := 7) (oi := { dst := some 15, op := Op.load 3 (Operand.tmp 2), type := 3, pos := "store.go:340", after := #[], guard := none }) (v := ?_) rfl (by kernel_rfl) (by kernel_rfl) (by kernel_rfl) (fun _ _ _ h => h) (Or.inl ⟨by rfl, ?_⟩) hHeld ?_
  rotate_left
  · (intro W1 hSw; (try dsimp only at hSw); go_simp; first | done | (with_reducible rfl))
  try simp only [Act.put, List.setIfInBounds_toArray, List.set_cons_zero, List.set_cons_succ]
  refine wpAnyH_ready (rs := [2, 12]) (by kernel_rfl) (by simp) ?_
  refine AllReadyH.cons (o := { dst := some 10, op := Op.call { callee := Callee.value (Operand.func 150), args := #[Operand.tmp 8, Operand.tmp 9], argTypes := #[56, 3] }, type := 101, pos := "store.go:340", after := #[{ on := 0, ground := Ground.data }, { on := 1, ground := Ground.data }], guard := none }) rfl (fun K hK => ?_) (AllReadyH.cons (o := { dst := some 5, op := Op.alloc 38, type := 0, pos := "store.go:340", after := #[], guard := none }) rfl (fun K hK => ?_) AllReadyH.nil)
  · rw [if_pos (by rfl)]
    go_simp
    go_at_call 150
    refine (HN.out _ B1).mono ?_
    rintro e wn ⟨rfl, rfl⟩
    refine hK.out _ _ hHeld (fun hHeld => ?_)
    clear hK K
    try simp only [Act.put, List.setIfInBounds_toArray, List.set_cons_zero, List.set_cons_succ]
    refine wpAnyH_ready (rs := [8, 12]) (by kernel_rfl) (by simp) ?_
    refine AllReadyH.cons (o := { dst := some 16, op := Op.call { callee := Callee.value (Operand.func 209), args := #[Operand.tmp 10, Operand.tmp 14, Operand.tmp 15], argTypes := #[101, 91, 3] }, type := 102, pos := "store.go:340", after := #[{ on := 2, ground := Ground.data }, { on := 6, ground := Ground.data }, { on := 7, ground := Ground.data }, { on := 2, ground := Ground.chain }], guard := none }) rfl (fun K hK => ?_) (AllReadyH.cons (o := { dst := some 5, op := Op.alloc 38, type := 0, pos := "store.go:340", after := #[], guard := none }) rfl (fun K hK => ?_) AllReadyH.nil)
    · rw [if_pos (by rfl)]
      go_simp
      go_at_call 209
      refine (HR.out _ B1).mono ?_
      rintro e w1 ⟨rfl, b1⟩
      have B3 := bstep B1 (Nat.le_refl _) b1
      refine hK.out _ _ (⟨(B3.cell (p := ⟨s, 0, none⟩) hlt).trans c0, (B3.cell (p := ⟨Bs, 0, none⟩) hls).trans cs, (B3.cell (p := ⟨Bt, 0, none⟩) hlbt).trans ct⟩) (fun hHeld => ?_)
      clear hK K
      try simp only [Act.put, List.setIfInBounds_toArray, List.set_cons_zero, List.set_cons_succ]
      refine wpAnyH_take (i := 9) (oi := { dst := some 7, op := Op.move (Operand.tmp 16), type := 102, pos := "store.go:340", after := #[{ on := 8, ground := Ground.data }], guard := none }) (v := ?_) rfl (by kernel_rfl) (by kernel_rfl) (by kernel_rfl) (fun _ _ _ h => h) (Or.inl ⟨by rfl, ?_⟩) hHeld ?_
      rotate_left
      · (intro W1 hSw; (try dsimp only at hSw); go_simp; first | done | (with_reducible rfl))
      try simp only [Act.put, List.setIfInBounds_toArray, List.set_cons_zero, List.set_cons_succ]
      refine wpAnyH_take (i := 10) (oi := { dst := some 17, op := Op.extract (Operand.tmp 7) 0, type := 38, pos := "store.go:340", after := #[{ on := 9, ground := Ground.data }], guard := none }) (v := ?_) rfl (by kernel_rfl) (by kernel_rfl) (by kernel_rfl) (fun _ _ _ h => h) (Or.inl ⟨by rfl, ?_⟩) hHeld ?_
      rotate_left
      · (intro W1 hSw; (try dsimp only at hSw); go_simp; first | done | (with_reducible rfl))
      try simp only [Act.put, List.setIfInBounds_toArray, List.set_cons_zero, List.set_cons_succ]
      refine wpAnyH_take (i := 11) (oi := { dst := some 18, op := Op.extract (Operand.tmp 7) 1, type := 4, pos := "store.go:340", after := #[{ on := 9, ground := Ground.data }, { on := 13, ground := Ground.gcOnly Departure.lateStores }], guard := none }) (v := ?_) rfl (by kernel_rfl) (by kernel_rfl) (by kernel_rfl) (fun _ _ _ h => h) (Or.inl ⟨by rfl, ?_⟩) hHeld ?_
      rotate_left
      · (intro W1 hSw; (try dsimp only at hSw); go_simp; first | done | (with_reducible rfl))
      try simp only [Act.put, List.setIfInBounds_toArray, List.set_cons_zero, List.set_cons_succ]
      refine wpAnyH_ready (rs := [12]) (by kernel_rfl) (by simp) ?_
      refine AllReadyH.cons (o := { dst := some 5, op := Op.alloc 38, type := 0, pos := "store.go:340", after := #[], guard := none }) rfl (fun K hK => ?_) AllReadyH.nil
      have B3 := (bstep B1 (Nat.le_refl _) b1).alloc (o := (.cells #[.int .i64 0, .int .i64 0, .string ⟨#[]⟩, .float .f64 0] 38)) (by have := b1.size; simpa using this)
      rw [if_pos (by rfl)]
      go_simp
      refine hK.out _ _ (⟨(B3.cell (p := ⟨s, 0, none⟩) hlt).trans c0, (B3.cell (p := ⟨Bs, 0, none⟩) hls).trans cs, (B3.cell (p := ⟨Bt, 0, none⟩) hlbt).trans ct⟩) (fun hHeld => ?_)
      clear hK K
      try simp only [Act.put, List.setIfInBounds_toArray, List.set_cons_zero, List.set_cons_succ]
      refine wpAnyH_ready (rs := [13]) (by kernel_rfl) (by simp) ?_
      refine AllReadyH.cons (o := { dst := none, op := Op.store 38 (Operand.tmp 5) (Operand.tmp 17), type := 0, pos := "store.go:340", after := #[{ on := 12, ground := Ground.data }, { on := 10, ground := Ground.data }, { on := 8, ground := Ground.chain }, { on := 0, ground := Ground.phase }, { on := 1, ground := Ground.phase }, { on := 2, ground := Ground.phase }, { on := 3, ground := Ground.phase }, { on := 4, ground := Ground.phase }, { on := 5, ground := Ground.phase }, { on := 6, ground := Ground.phase }, { on := 7, ground := Ground.phase }, { on := 8, ground := Ground.phase }, { on := 9, ground := Ground.phase }, { on := 10, ground := Ground.phase }, { on := 11, ground := Ground.textOnly Departure.lateStores }, { on := 12, ground := Ground.phase }], guard := none }) rfl (fun K hK => ?_) AllReadyH.nil
      rw [if_pos (by rfl)]
      have B4 := (bstep B1 (Nat.le_refl _) b1).alloc (o := (.cells #[.int .i64 v.src, .int .i64 v.dst, .string v.ty, .float .f64 v.w] 38)) (by have := b1.size; simpa using this)
      have A4 := Blk.new w1 38 [.int .i64 v.src, .int .i64 v.dst, .string v.ty, .float .f64 v.w]
      go_simp
      refine hK.out _ _ (⟨(B4.cell (p := ⟨s, 0, none⟩) hlt).trans c0, (B4.cell (p := ⟨Bs, 0, none⟩) hls).trans cs, (B4.cell (p := ⟨Bt, 0, none⟩) hlbt).trans ct⟩) (fun hHeld => ?_)
      clear hK K
      try simp only [Act.put, List.setIfInBounds_toArray, List.set_cons_zero, List.set_cons_succ]
      refine wpAnyH_take (i := 14) (oi := { dst := some 6, op := Op.assign (Operand.tmp 18), type := 4, pos := "store.go:340", after := #[{ on := 11, ground := Ground.data }, { on := 13, ground := Ground.chain }, { on := 0, ground := Ground.phase }, { on := 1, ground := Ground.phase }, { on := 2, ground := Ground.phase }, { on := 3, ground := Ground.phase }, { on := 4, ground := Ground.phase }, { on := 5, ground := Ground.phase }, { on := 6, ground := Ground.phase }, { on := 7, ground := Ground.phase }, { on := 8, ground := Ground.phase }, { on := 9, ground := Ground.phase }, { on := 10, ground := Ground.phase }, { on := 11, ground := Ground.phase }, { on := 12, ground := Ground.phase }, { on := 13, ground := Ground.phase }], guard := none }) (v := ?_) rfl (by kernel_rfl) (by kernel_rfl) (by kernel_rfl) (fun _ _ _ h => h) (Or.inl ⟨by rfl, ?_⟩) hHeld ?_
      rotate_left
      · (intro W1 hSw; (try dsimp only at hSw); go_simp; first | done | (with_reducible rfl))
      try simp only [Act.put, List.setIfInBounds_toArray, List.set_cons_zero, List.set_cons_succ]
      refine wpAnyH_done (by kernel_rfl) ?_ _
      clear A4
      go_wp2_with fail
      go_ret
      exact ⟨by first | rfl | simp, B4⟩
    · rw [if_pos (by rfl)]
      go_simp
      refine hK.out _ _ (⟨(B2.out.cell (p := ⟨s, 0, none⟩) hlt).trans c0, (B2.out.cell (p := ⟨Bs, 0, none⟩) hls).trans cs, (B2.out.cell (p := ⟨Bt, 0, none⟩) hlbt).trans ct⟩) (fun hHeld => ?_)
      clear hK K
      try simp only [Act.put, List.setIfInBounds_toArray, List.set_cons_zero, List.set_cons_succ]
      refine wpAnyH_ready (rs := [8]) (by kernel_rfl) (by simp) ?_
      refine AllReadyH.cons (o := { dst := some 16, op := Op.call { callee := Callee.value (Operand.func 209), args := #[Operand.tmp 10, Operand.tmp 14, Operand.tmp 15], argTypes := #[101, 91, 3] }, type := 102, pos := "store.go:340", after := #[{ on := 2, ground := Ground.data }, { on := 6, ground := Ground.data }, { on := 7, ground := Ground.data }, { on := 2, ground := Ground.chain }], guard := none }) rfl (fun K hK => ?_) AllReadyH.nil
      rw [if_pos (by rfl)]
      go_simp
      go_at_call 209
      refine (HR.out _ B2.out).mono ?_
      rintro e w1 ⟨rfl, b1⟩
      have B3 := bstep B2.out (Nat.le_refl _) b1
      have HA1 := hid ((Blk.new w.drew 38 [.int .i64 0, .int .i64 0, .string ⟨#[]⟩, .float .f64 0]).below b1 (by simp))
      refine hK.out _ _ (⟨(B3.cell (p := ⟨s, 0, none⟩) hlt).trans c0, (B3.cell (p := ⟨Bs, 0, none⟩) hls).trans cs, (B3.cell (p := ⟨Bt, 0, none⟩) hlbt).trans ct⟩) (fun hHeld => ?_)
      clear hK K
      try simp only [Act.put, List.setIfInBounds_toArray, List.set_cons_zero, List.set_cons_succ]
      refine wpAnyH_take (i := 9) (oi := { dst := some 7, op := Op.move (Operand.tmp 16), type := 102, pos := "store.go:340", after := #[{ on := 8, ground := Ground.data }], guard := none }) (v := ?_) rfl (by kernel_rfl) (by kernel_rfl) (by kernel_rfl) (fun _ _ _ h => h) (Or.inl ⟨by rfl, ?_⟩) hHeld ?_
      rotate_left
      · (intro W1 hSw; (try dsimp only at hSw); go_simp; first | done | (with_reducible rfl))
      try simp only [Act.put, List.setIfInBounds_toArray, List.set_cons_zero, List.set_cons_succ]
      refine wpAnyH_take (i := 10) (oi := { dst := some 17, op := Op.extract (Operand.tmp 7) 0, type := 38, pos := "store.go:340", after := #[{ on := 9, ground := Ground.data }], guard := none }) (v := ?_) rfl (by kernel_rfl) (by kernel_rfl) (by kernel_rfl) (fun _ _ _ h => h) (Or.inl ⟨by rfl, ?_⟩) hHeld ?_
      rotate_left
      · (intro W1 hSw; (try dsimp only at hSw); go_simp; first | done | (with_reducible rfl))
      try simp only [Act.put, List.setIfInBounds_toArray, List.set_cons_zero, List.set_cons_succ]
      refine wpAnyH_take (i := 11) (oi := { dst := some 18, op := Op.extract (Operand.tmp 7) 1, type := 4, pos := "store.go:340", after := #[{ on := 9, ground := Ground.data }, { on := 13, ground := Ground.gcOnly Departure.lateStores }], guard := none }) (v := ?_) rfl (by kernel_rfl) (by kernel_rfl) (by kernel_rfl) (fun _ _ _ h => h) (Or.inl ⟨by rfl, ?_⟩) hHeld ?_
      rotate_left
      · (intro W1 hSw; (try dsimp only at hSw); go_simp; first | done | (with_reducible rfl))
      try simp only [Act.put, List.setIfInBounds_toArray, List.set_cons_zero, List.set_cons_succ]
      refine wpAnyH_ready (rs := [13]) (by kernel_rfl) (by simp) ?_
      refine AllReadyH.cons (o := { dst := none, op := Op.store 38 (Operand.tmp 5) (Operand.tmp 17), type := 0, pos := "store.go:340", after := #[{ on := 12, ground := Ground.data }, { on := 10, ground := Ground.data }, { on := 8, ground := Ground.chain }, { on := 0, ground := Ground.phase }, { on := 1, ground := Ground.phase }, { on := 2, ground := Ground.phase }, { on := 3, ground := Ground.phase }, { on := 4, ground := Ground.phase }, { on := 5, ground := Ground.phase }, { on := 6, ground := Ground.phase }, { on := 7, ground := Ground.phase }, { on := 8, ground := Ground.phase }, { on := 9, ground := Ground.phase }, { on := 10, ground := Ground.phase }, { on := 11, ground := Ground.textOnly Departure.lateStores }, { on := 12, ground := Ground.phase }], guard := none }) rfl (fun K hK => ?_) AllReadyH.nil
      rw [if_pos (by rfl)]
      have a0 : w1.cell? ⟨w.heap.size, 0, none⟩ = some (.int .i64 0) := HA1.out.cell 0
      have a1 : w1.cell? ⟨w.heap.size, 1, none⟩ = some (.int .i64 0) := HA1.out.cell 1
      have a2 : w1.cell? ⟨w.heap.size, 2, none⟩ = some (.string ⟨#[]⟩) := HA1.out.cell 2
      have a3 : w1.cell? ⟨w.heap.size, 3, none⟩ = some (.float .f64 0) := HA1.out.cell 3
      have f0 : w1.frozen? ⟨w.heap.size, 0, none⟩ = false := HA1.out.frozen 0
      have f1 : w1.frozen? ⟨w.heap.size, 1, none⟩ = false := HA1.out.frozen 1
      have f2 : w1.frozen? ⟨w.heap.size, 2, none⟩ = false := HA1.out.frozen 2
      have f3 : w1.frozen? ⟨w.heap.size, 3, none⟩ = false := HA1.out.frozen 3
      have hwl : w.heap.size < w1.heap.size := HA1.out.lt
      have B4 := (((((bstep B2.out (Nat.le_refl _) b1).setCell (p := ⟨w.heap.size, 0, none⟩) (Nat.le_refl _) (.int .i64 v.src)).setCell (p := ⟨w.heap.size, 1, none⟩) (Nat.le_refl _) (.int .i64 v.dst)).setCell (p := ⟨w.heap.size, 2, none⟩) (Nat.le_refl _) (.string v.ty)).setCell (p := ⟨w.heap.size, 3, none⟩) (Nat.le_refl _) (.float .f64 v.w))
      have A4 := ((((HA1.out.set_ 0 (.int .i64 v.src)).set_ 1 (.int .i64 v.dst)).set_ 2 (.string v.ty)).set_ 3 (.float .f64 v.w))
      go_simp
      refine hK.out _ _ (⟨(B4.cell (p := ⟨s, 0, none⟩) hlt).trans c0, (B4.cell (p := ⟨Bs, 0, none⟩) hls).trans cs, (B4.cell (p := ⟨Bt, 0, none⟩) hlbt).trans ct⟩) (fun hHeld => ?_)
      clear hK K
      try simp only [Act.put, List.setIfInBounds_toArray, List.set_cons_zero, List.set_cons_succ]
      refine wpAnyH_take (i := 14) (oi := { dst := some 6, op := Op.assign (Operand.tmp 18), type := 4, pos := "store.go:340", after := #[{ on := 11, ground := Ground.data }, { on := 13, ground := Ground.chain }, { on := 0, ground := Ground.phase }, { on := 1, ground := Ground.phase }, { on := 2, ground := Ground.phase }, { on := 3, ground := Ground.phase }, { on := 4, ground := Ground.phase }, { on := 5, ground := Ground.phase }, { on := 6, ground := Ground.phase }, { on := 7, ground := Ground.phase }, { on := 8, ground := Ground.phase }, { on := 9, ground := Ground.phase }, { on := 10, ground := Ground.phase }, { on := 11, ground := Ground.phase }, { on := 12, ground := Ground.phase }, { on := 13, ground := Ground.phase }], guard := none }) (v := ?_) rfl (by kernel_rfl) (by kernel_rfl) (by kernel_rfl) (fun _ _ _ h => h) (Or.inl ⟨by rfl, ?_⟩) hHeld ?_
      rotate_left
      · (intro W1 hSw; (try dsimp only at hSw); go_simp; first | done | (with_reducible rfl))
      try simp only [Act.put, List.setIfInBounds_toArray, List.set_cons_zero, List.set_cons_succ]
      refine wpAnyH_done (by kernel_rfl) ?_ _
      clear A4
      go_wp2_with fail
      go_ret
      exact ⟨by first | rfl | simp, B4⟩
  · rw [if_pos (by rfl)]
    go_simp
    refine hK.out _ _ (⟨(B2.out.cell (p := ⟨s, 0, none⟩) hlt).trans c0, (B2.out.cell (p := ⟨Bs, 0, none⟩) hls).trans cs, (B2.out.cell (p := ⟨Bt, 0, none⟩) hlbt).trans ct⟩) (fun hHeld => ?_)
    clear hK K
    try simp only [Act.put, List.setIfInBounds_toArray, List.set_cons_zero, List.set_cons_succ]
    refine wpAnyH_ready (rs := [2]) (by kernel_rfl) (by simp) ?_
    refine AllReadyH.cons (o := { dst := some 10, op := Op.call { callee := Callee.value (Operand.func 150), args := #[Operand.tmp 8, Operand.tmp 9], argTypes := #[56, 3] }, type := 101, pos := "store.go:340", after := #[{ on := 0, ground := Ground.data }, { on := 1, ground := Ground.data }], guard := none }) rfl (fun K hK => ?_) AllReadyH.nil
    rw [if_pos (by rfl)]
    go_simp
    go_at_call 150
    refine (HN.out _ B2.out).mono ?_
    rintro e wn ⟨rfl, rfl⟩
    refine hK.out _ _ hHeld (fun hHeld => ?_)
    clear hK K
    try simp only [Act.put, List.setIfInBounds_toArray, List.set_cons_zero, List.set_cons_succ]
    refine wpAnyH_ready (rs := [8]) (by kernel_rfl) (by simp) ?_
    refine AllReadyH.cons (o := { dst := some 16, op := Op.call { callee := Callee.value (Operand.func 209), args := #[Operand.tmp 10, Operand.tmp 14, Operand.tmp 15], argTypes := #[101, 91, 3] }, type := 102, pos := "store.go:340", after := #[{ on := 2, ground := Ground.data }, { on := 6, ground := Ground.data }, { on := 7, ground := Ground.data }, { on := 2, ground := Ground.chain }], guard := none }) rfl (fun K hK => ?_) AllReadyH.nil
    rw [if_pos (by rfl)]
    go_simp
    go_at_call 209
    refine (HR.out _ B2.out).mono ?_
    rintro e w1 ⟨rfl, b1⟩
    have B3 := bstep B2.out (Nat.le_refl _) b1
    have HA1 := hid ((Blk.new w.drew 38 [.int .i64 0, .int .i64 0, .string ⟨#[]⟩, .float .f64 0]).below b1 (by simp))
    refine hK.out _ _ (⟨(B3.cell (p := ⟨s, 0, none⟩) hlt).trans c0, (B3.cell (p := ⟨Bs, 0, none⟩) hls).trans cs, (B3.cell (p := ⟨Bt, 0, none⟩) hlbt).trans ct⟩) (fun hHeld => ?_)
    clear hK K
    try simp only [Act.put, List.setIfInBounds_toArray, List.set_cons_zero, List.set_cons_succ]
    refine wpAnyH_take (i := 9) (oi := { dst := some 7, op := Op.move (Operand.tmp 16), type := 102, pos := "store.go:340", after := #[{ on := 8, ground := Ground.data }], guard := none }) (v := ?_) rfl (by kernel_rfl) (by kernel_rfl) (by kernel_rfl) (fun _ _ _ h => h) (Or.inl ⟨by rfl, ?_⟩) hHeld ?_
    rotate_left
    · (intro W1 hSw; (try dsimp only at hSw); go_simp; first | done | (with_reducible rfl))
    try simp only [Act.put, List.setIfInBounds_toArray, List.set_cons_zero, List.set_cons_succ]
    refine wpAnyH_take (i := 10) (oi := { dst := some 17, op := Op.extract (Operand.tmp 7) 0, type := 38, pos := "store.go:340", after := #[{ on := 9, ground := Ground.data }], guard := none }) (v := ?_) rfl (by kernel_rfl) (by kernel_rfl) (by kernel_rfl) (fun _ _ _ h => h) (Or.inl ⟨by rfl, ?_⟩) hHeld ?_
    rotate_left
    · (intro W1 hSw; (try dsimp only at hSw); go_simp; first | done | (with_reducible rfl))
    try simp only [Act.put, List.setIfInBounds_toArray, List.set_cons_zero, List.set_cons_succ]
    refine wpAnyH_take (i := 11) (oi := { dst := some 18, op := Op.extract (Operand.tmp 7) 1, type := 4, pos := "store.go:340", after := #[{ on := 9, ground := Ground.data }, { on := 13, ground := Ground.gcOnly Departure.lateStores }], guard := none }) (v := ?_) rfl (by kernel_rfl) (by kernel_rfl) (by kernel_rfl) (fun _ _ _ h => h) (Or.inl ⟨by rfl, ?_⟩) hHeld ?_
    rotate_left
    · (intro W1 hSw; (try dsimp only at hSw); go_simp; first | done | (with_reducible rfl))
    try simp only [Act.put, List.setIfInBounds_toArray, List.set_cons_zero, List.set_cons_succ]
    refine wpAnyH_ready (rs := [13]) (by kernel_rfl) (by simp) ?_
    refine AllReadyH.cons (o := { dst := none, op := Op.store 38 (Operand.tmp 5) (Operand.tmp 17), type := 0, pos := "store.go:340", after := #[{ on := 12, ground := Ground.data }, { on := 10, ground := Ground.data }, { on := 8, ground := Ground.chain }, { on := 0, ground := Ground.phase }, { on := 1, ground := Ground.phase }, { on := 2, ground := Ground.phase }, { on := 3, ground := Ground.phase }, { on := 4, ground := Ground.phase }, { on := 5, ground := Ground.phase }, { on := 6, ground := Ground.phase }, { on := 7, ground := Ground.phase }, { on := 8, ground := Ground.phase }, { on := 9, ground := Ground.phase }, { on := 10, ground := Ground.phase }, { on := 11, ground := Ground.textOnly Departure.lateStores }, { on := 12, ground := Ground.phase }], guard := none }) rfl (fun K hK => ?_) AllReadyH.nil
    rw [if_pos (by rfl)]
    have a0 : w1.cell? ⟨w.heap.size, 0, none⟩ = some (.int .i64 0) := HA1.out.cell 0
    have a1 : w1.cell? ⟨w.heap.size, 1, none⟩ = some (.int .i64 0) := HA1.out.cell 1
    have a2 : w1.cell? ⟨w.heap.size, 2, none⟩ = some (.string ⟨#[]⟩) := HA1.out.cell 2
    have a3 : w1.cell? ⟨w.heap.size, 3, none⟩ = some (.float .f64 0) := HA1.out.cell 3
    have f0 : w1.frozen? ⟨w.heap.size, 0, none⟩ = false := HA1.out.frozen 0
    have f1 : w1.frozen? ⟨w.heap.size, 1, none⟩ = false := HA1.out.frozen 1
    have f2 : w1.frozen? ⟨w.heap.size, 2, none⟩ = false := HA1.out.frozen 2
    have f3 : w1.frozen? ⟨w.heap.size, 3, none⟩ = false := HA1.out.frozen 3
    have hwl : w.heap.size < w1.heap.size := HA1.out.lt
    have B4 := (((((bstep B2.out (Nat.le_refl _) b1).setCell (p := ⟨w.heap.size, 0, none⟩) (Nat.le_refl _) (.int .i64 v.src)).setCell (p := ⟨w.heap.size, 1, none⟩) (Nat.le_refl _) (.int .i64 v.dst)).setCell (p := ⟨w.heap.size, 2, none⟩) (Nat.le_refl _) (.string v.ty)).setCell (p := ⟨w.heap.size, 3, none⟩) (Nat.le_refl _) (.float .f64 v.w))
    have A4 := ((((HA1.out.set_ 0 (.int .i64 v.src)).set_ 1 (.int .i64 v.dst)).set_ 2 (.string v.ty)).set_ 3 (.float .f64 v.w))
    go_simp
    refine hK.out _ _ (⟨(B4.cell (p := ⟨s, 0, none⟩) hlt).trans c0, (B4.cell (p := ⟨Bs, 0, none⟩) hls).trans cs, (B4.cell (p := ⟨Bt, 0, none⟩) hlbt).trans ct⟩) (fun hHeld => ?_)
    clear hK K
    try simp only [Act.put, List.setIfInBounds_toArray, List.set_cons_zero, List.set_cons_succ]
    refine wpAnyH_take (i := 14) (oi := { dst := some 6, op := Op.assign (Operand.tmp 18), type := 4, pos := "store.go:340", after := #[{ on := 11, ground := Ground.data }, { on := 13, ground := Ground.chain }, { on := 0, ground := Ground.phase }, { on := 1, ground := Ground.phase }, { on := 2, ground := Ground.phase }, { on := 3, ground := Ground.phase }, { on := 4, ground := Ground.phase }, { on := 5, ground := Ground.phase }, { on := 6, ground := Ground.phase }, { on := 7, ground := Ground.phase }, { on := 8, ground := Ground.phase }, { on := 9, ground := Ground.phase }, { on := 10, ground := Ground.phase }, { on := 11, ground := Ground.phase }, { on := 12, ground := Ground.phase }, { on := 13, ground := Ground.phase }], guard := none }) (v := ?_) rfl (by kernel_rfl) (by kernel_rfl) (by kernel_rfl) (fun _ _ _ h => h) (Or.inl ⟨by rfl, ?_⟩) hHeld ?_
    rotate_left
    · (intro W1 hSw; (try dsimp only at hSw); go_simp; first | done | (with_reducible rfl))
    try simp only [Act.put, List.setIfInBounds_toArray, List.set_cons_zero, List.set_cons_succ]
    refine wpAnyH_done (by kernel_rfl) ?_ _
    clear A4
    go_wp2_with fail
    go_ret
    exact ⟨by first | rfl | simp, B4⟩
  -- END REGION chained1
end
set_option maxRecDepth 100000 in
theorem idx_nil (w : World) (f : Value) : Calls Tryz.prog 325 #[.slice none 0 0, f] w fun e w' => e = .returned (.int .i64 (-1)) ∧ w = w' := by
  go_enter Tryz.func325, Tryz.ntmps325
  go_wp2_with fail
  go_loopw [8] (fun i wr => i = .int .i64 0 ∧ w = wr) (fun _ _ => 1)
  case atStart => exact ⟨rfl, rfl⟩
  case round =>
    obtain ⟨rfl, rfl⟩ := hrel
    go_wp2_with fail
    go_ret
    exact ⟨rfl, rfl⟩
set_option maxRecDepth 100000 in
theorem del_nil (w : World) (f : Value) : Calls Tryz.prog 277 #[.slice none 0 0, f] w fun e w' => e = .returned (.slice none 0 0) ∧ w = w' := by
  go_enter Tryz.func277, Tryz.ntmps277
  go_wp2_with fail
  refine (idx_nil _ _).mono ?_
  rintro e w1 ⟨rfl, rfl⟩
  go_wp2_with fail
  go_ret
  exact ⟨rfl, rfl⟩
set_option maxRecDepth 100000 in
theorem idx_one (w : World) (g cap : Nat) (b : Int) (Bs Bt : Nat) (hb : w.cell? ⟨g, 0, none⟩ = some (.int .i64 b)) (hf : Calls Tryz.prog 278 #[.int .i64 b, pt Bs, pt Bt] w fun e w' => e = .returned (.bool true) ∧ Below w.heap.size w w') :
    Calls Tryz.prog 325 #[.slice (some ⟨g, 0, none⟩) 1 cap, .func (.func 278) #[] #[pt Bs, pt Bt]] w fun e w' => e = .returned (.int .i64 0) ∧ Below w.heap.size w w' := by
  have HF := hid hf
  clear hf
  go_enter Tryz.func325, Tryz.ntmps325
  go_wp2_with fail
  go_loopw [8] (fun i wr => i = .int .i64 0 ∧ w = wr) (fun _ _ => 1)
  case atStart => exact ⟨rfl, rfl⟩
  case round =>
    obtain ⟨rfl, rfl⟩ := hrel
    go_wp2_with fail
    refine HF.out.mono ?_
    rintro e w1 ⟨rfl, b1⟩
    go_wp2_with fail
    go_ret
    exact ⟨rfl, b1⟩
set_option maxRecDepth 100000 in
theorem run_clear_one (w : World) (g cap : Nat) {b : Int} {ty : TypeId} (hc : w.cell? ⟨g, 0, none⟩ = some (.int .i64 b)) (hf : w.frozen? ⟨g, 0, none⟩ = false) :
    (Builtin.clear_ #[31] ty #[.slice (some ⟨g, 0, none⟩) 1 cap]).run Tryz.prog w = .ok (.tuple #[]) (w.setCell ⟨g, 0, none⟩ (.int .i64 0)) := by
  have hst := run_storeCells_cells (P := Tryz.prog) g 0 [.int .i64 0] 0 w (fun j hj => by
    obtain rfl : j = 0 := by simpa using hj
    rw [hc]; rfl) (fun j hj => by
    obtain rfl : j = 0 := by simpa using hj
    exact hf) (fun u hu => by
    obtain rfl : u = .int .i64 0 := by simpa using hu
    rfl)
  simp only [Nat.add_zero] at hst
  have hz : ∀ w, (zeroValue 3).run Tryz.prog w = .ok (.int .i64 0) w := Tryz.zeroValue3
  simp [Builtin.clear_, run_underlying Tryz.underlying31, hz, Builtin.zeroCells, Value.cells, hst, World.setCells]
set_option maxRecDepth 100000 in
theorem del_one (w : World) (N g cap : Nat) (b : Int) (Bs Bt : Nat) (hrow : w.ownsRow N 3 1 (.slice (some ⟨g, 0, none⟩) 1 cap) 1 [.int .i64 b]) (hN : N ≤ w.heap.size) (hf : Calls Tryz.prog 278 #[.int .i64 b, pt Bs, pt Bt] w fun e w' => e = .returned (.bool true) ∧ Below w.heap.size w w') :
    Calls Tryz.prog 277 #[.slice (some ⟨g, 0, none⟩) 1 cap, .func (.func 278) #[] #[pt Bs, pt Bt]] w fun e w' => e = .returned (.slice (some ⟨g, 0, none⟩) 0 cap) ∧ Below N w w' := by
  have hc : w.cell? ⟨g, 0, none⟩ = some (.int .i64 b) := (hrow.cellAt 0 (by omega)).trans rfl
  have hfz := hrow.frozenAt 0
  obtain ⟨hgN, hgl⟩ := hrow.lt g rfl
  have hcap : 1 ≤ cap := by
    rcases hrow.2 with ⟨hv, _⟩ | ⟨g', cap', cur, hv, _, _, h1, _⟩
    · cases hv
    · injection hv with _ _ e; omega
  have hcI : (1 : Int) ≤ (cap : Int) := by omega
  have HI := hid (idx_one w g cap b Bs Bt hc hf)
  clear hrow hf
  go_enter Tryz.func277, Tryz.ntmps277
  go_wp2_with fail
  refine HI.out.mono ?_
  rintro e w1 ⟨rfl, b1⟩
  have c1 := (b1.cell (p := ⟨g, 0, none⟩) hgl).trans hc
  have f1 := (b1.frozen (p := ⟨g, 0, none⟩) hgl).trans hfz
  have HB := hid b1
  clear hc hfz b1 HI
  go_wp2_with fail
  go_loopw [5, 6] (fun i j wr => i = .int .i64 0 ∧ j = .int .i64 1 ∧ w1 = wr) (fun _ _ _ => 1)
  case atStart => exact ⟨rfl, rfl, rfl⟩
  case round =>
    obtain ⟨rfl, rfl, rfl⟩ := hrel
    have hcl : ∀ W ty, W = w1 → (Builtin.clear_ #[31] ty #[.slice (some ⟨g, 0, none⟩) 1 cap]).run Tryz.prog W = .ok (.tuple #[]) (W.setCell ⟨g, 0, none⟩ (.int .i64 0)) := fun W ty e => by
      subst e
      exact run_clear_one W g cap c1 f1
    have hcl := hcl w1
    have HE : Hid (Below N w (w1.setCell ⟨g, 0, none⟩ (.int .i64 0))) := (HB.out.mono hN).setCell hgN _
    go_wp2_with fail
    go_ret
    exact ⟨rfl, HE.out⟩

set_option maxRecDepth 100000 in
theorem sto_chained_nil (w : World) (s : Nat) (t : Int) :
    Calls Tryz.prog 219 #[pt s, .int .i64 t, .slice none 0 0] w fun e w' => e = .returned (.slice none 0 0) ∧ Below w.heap.size w w' := by
  have B1 := hid ((below_alloc w (.cells #[pt s] 56)).alloc (by simp) (.cells #[.int .i64 t] 3))
  go_enter Tryz.func219, Tryz.ntmps219
  go_wp2_with fail
  refine (del_nil _ _).mono ?_
  rintro e w1 ⟨rfl, rfl⟩
  go_wp2_with fail
  refine (Tryz.slices_Sort_int_none none 0 _).mono ?_
  rintro e w1 ⟨rfl, hw1⟩
  subst hw1
  go_wp2_with fail
  go_ret
  exact ⟨rfl, B1.out⟩
set_option maxHeartbeats 1000000 in
set_option maxRecDepth 100000 in
theorem sto_chained_one {O : Nat → Prop} {w : World} {s : Nat} {p : StoP} {d : StoD} (h : StoA O w s p d) (t b : Int) (h1 : 1 ≤ b) (l : List (Ver EdgV)) (hl : d.es[b.toNat - 1]? = some l) (hok : (Cel.lastBy (d.c.sees t) l).isSome = false) (A : Option Addr) (N cap : Nat) (hrow : w.ownsRow N 3 1 (.slice A 1 cap) 1 [.int .i64 b]) (hN : N ≤ w.heap.size) :
    Calls Tryz.prog 219 #[pt s, .int .i64 t, .slice A 1 cap] w fun e w' => (∃ A', e = .returned (.slice A' 0 cap)) ∧ Below N w w' := by
  obtain ⟨g, _, hv, hgN, hgl⟩ := hrow.form (by omega)
  injection hv with e1 _ e3
  subst e1
  subst e3
  have B1 := (below_alloc w (.cells #[pt s] 56)).alloc (by simp) (.cells #[.int .i64 t] 3)
  have R1 := own_tfr (ts := []) hrow (.of_below B1) (by simp)
  have H1 := h.below B1
  have Q1 := (Blk.new w 56 [pt s]).alloc (.cells #[.int .i64 t] 3)
  have Q2 := Blk.new (w.alloc (.cells #[pt s] 56)) 3 [.int .i64 t]
  rw [World.size_alloc] at Q2
  have HD := hid (del_one _ N g cap b w.heap.size (w.heap.size + 1) R1 (Nat.le_trans hN B1.size) (sto_chained1 H1 t b h1 l hl false hok w.heap.size (w.heap.size + 1) Q1 Q2))
  have HB1 := hid B1
  clear h hl hok hrow B1 R1 H1 Q1 Q2 h1
  go_enter Tryz.func219, Tryz.ntmps219
  go_wp2_with fail
  refine HD.out.mono ?_
  rintro e w1 ⟨rfl, b1⟩
  have HB := hid ((HB1.out.mono hN).trans b1)
  clear b1 HD HB1
  go_wp2_with fail
  refine (Tryz.slices_Sort_int_none _ _ _).mono ?_
  rintro e w2 ⟨rfl, hw2⟩
  subst hw2
  go_wp2_with fail
  go_ret
  exact ⟨⟨_, rfl⟩, HB.out⟩
end Go.Proofs.YtdfkdgnhpdgphaaGreatDoor

/-
  A store: Out and In where nothing is seen; what a chain's turn leaves.
-/
namespace Go.Proofs.YtdfkdgnhpdgphaaGreatDoor
open Go.RowKit Go.Proofs.Lig

section
variable {O : Nat → Prop} {w w' : World} {s : Nat} {p : StoP} {d : StoD}
/-- Nothing that t reads is on the chain D at id. -/
def Unseen (d : StoD) (D : Option (Int × Int)) (t id : Int) : Prop := ∀ a b, D = some (a, b) → a = id → 1 ≤ b ∧ ∃ l, d.es[b.toNat - 1]? = some l ∧ (Cel.lastBy (d.c.sees t) l).isSome = false
set_option maxRecDepth 100000 in
theorem StoA.chainO (h : StoA O w s p d) : ∃ S, ChnS w p.o S d.co ∧ (∀ k ∈ S, O k) ∧ ∀ (w' : World) (S' : List Nat) (D' : Option (Int × Int)), ChnS w' p.o S' D' → Sub S' S w.heap.size → Fr S w w' → NewO O w → StoA O w' s p { d with co := D' } ∧ FrO O w w' ∧ TFr chnT w w' := by
  obtain ⟨X, S, hX, hC, hS, turn⟩ := h.chains.get chn_law (i := 0) (v := d.co) rfl
  have hX : p.o = X := by simpa using hX
  subst hX
  refine ⟨S, hC, hS, fun w' S' D' hC' hs hf hn => ?_⟩
  have ht : TFr chnT w w' := .of_frT hf hC.typed
  obtain ⟨SC, hc1, hSC⟩ := h.clk
  exact ⟨⟨h.blk.tfr ht (by decide), h.sO, ⟨SC, hc1.tfr ht (by decide), hSC⟩, h.good, h.nrow.tfr ht (by decide), h.erow.tfr ht (by decide), h.drow.tfr ht (by decide), h.trow.tfr ht (by decide), h.nodes.tfr nod_law ht (by decide), h.edges.tfr edg_law ht (by decide), turn hC' hs hf hn, h.dl, h.bare⟩, .of_fr hf hS, ht⟩
set_option maxRecDepth 100000 in
theorem StoA.chainI (h : StoA O w s p d) : ∃ S, ChnS w p.i S d.ci ∧ (∀ k ∈ S, O k) ∧ ∀ (w' : World) (S' : List Nat) (D' : Option (Int × Int)), ChnS w' p.i S' D' → Sub S' S w.heap.size → Fr S w w' → NewO O w → StoA O w' s p { d with ci := D' } ∧ FrO O w w' ∧ TFr chnT w w' := by
  obtain ⟨X, S, hX, hC, hS, turn⟩ := h.chains.get chn_law (i := 1) (v := d.ci) rfl
  have hX : p.i = X := by simpa using hX
  subst hX
  refine ⟨S, hC, hS, fun w' S' D' hC' hs hf hn => ?_⟩
  have ht : TFr chnT w w' := .of_frT hf hC.typed
  obtain ⟨SC, hc1, hSC⟩ := h.clk
  exact ⟨⟨h.blk.tfr ht (by decide), h.sO, ⟨SC, hc1.tfr ht (by decide), hSC⟩, h.good, h.nrow.tfr ht (by decide), h.erow.tfr ht (by decide), h.drow.tfr ht (by decide), h.trow.tfr ht (by decide), h.nodes.tfr nod_law ht (by decide), h.edges.tfr edg_law ht (by decide), turn hC' hs hf hn, h.dl, h.bare⟩, .of_fr hf hS, ht⟩

set_option maxRecDepth 100000 in
/-- Walk, and chained, over what is unseen. -/
theorem walk_unseen (h : StoA O w s p d) {X : Nat} {S : List Nat} {D : Option (Int × Int)} (hC : ChnS w X S D) (t id : Int) (hu : Unseen d D t id) :
    Calls Tryz.prog 220 #[pt X, .int .i64 id] w fun e w1 => ∃ A n cap, e = .returned (.slice A n cap) ∧ Below w.heap.size w w1 ∧ Calls Tryz.prog 219 #[pt s, .int .i64 t, .slice A n cap] w1 fun e w' => (∃ A' cap', e = .returned (.slice A' 0 cap')) ∧ Below w.heap.size w w' := by
  by_cases hD : ∃ b, D = some (id, b)
  · obtain ⟨b, rfl⟩ := hD
    obtain ⟨hb, l, hl, hok⟩ := hu id b rfl rfl
    refine (chn_walk_one w X S id b hC).mono ?_
    rintro e w1 ⟨A, cap, rfl, hrow, hB⟩
    refine ⟨A, 1, cap, rfl, hB, ?_⟩
    refine (sto_chained_one (h.below hB) t b hb l hl hok A w.heap.size cap hrow hB.size).mono ?_
    rintro e w2 ⟨⟨A', rfl⟩, b2⟩
    exact ⟨⟨A', cap, rfl⟩, hB.trans b2⟩
  · refine (chn_walk_none w X S D hC id (fun a b e ha => hD ⟨b, by rw [e, ha]⟩)).mono ?_
    rintro e w1 ⟨rfl, rfl⟩
    refine ⟨none, 0, 0, rfl, Below.refl _ _, ?_⟩
    refine (sto_chained_nil w s t).mono ?_
    rintro e w2 ⟨rfl, b2⟩
    exact ⟨⟨none, 0, rfl⟩, b2⟩
set_option maxRecDepth 100000 in
theorem sto_out (h : StoA O w s p d) (t id : Int) (hl : d.c.live t = true) (hu : Unseen d d.co t id) :
    Calls Tryz.prog 135 #[pt s, .int .i64 t, .int .i64 id] w fun e w' => (∃ A' cap', e = .returned (.slice A' 0 cap')) ∧ Below w.heap.size w w' := by
  obtain ⟨S, hC, _⟩ := h.chainO
  have HW := hid (walk_unseen h hC t id hu)
  have HL := hid (sto_isLive h t true hl)
  have c4 := h.c4
  clear h hC hu hl
  go_enter Tryz.func135, Tryz.ntmps135
  go_wp2_with fail
  refine HL.out.mono ?_
  rintro e w1 ⟨rfl, rfl⟩
  go_wp2_with fail
  refine HW.out.mono ?_
  rintro e w1 ⟨A, n, cap, rfl, b1, hk⟩
  have HK := hid hk
  clear b1 hk HW HL
  go_wp2_with fail
  refine HK.out.mono ?_
  rintro e w2 ⟨⟨A', cap', rfl⟩, b2⟩
  go_wp2_with fail
  go_ret
  exact ⟨⟨_, _, rfl⟩, b2⟩
set_option maxRecDepth 100000 in
theorem sto_in (h : StoA O w s p d) (t id : Int) (hl : d.c.live t = true) (hu : Unseen d d.ci t id) :
    Calls Tryz.prog 136 #[pt s, .int .i64 t, .int .i64 id] w fun e w' => (∃ A' cap', e = .returned (.slice A' 0 cap')) ∧ Below w.heap.size w w' := by
  obtain ⟨S, hC, _⟩ := h.chainI
  have HW := hid (walk_unseen h hC t id hu)
  have HL := hid (sto_isLive h t true hl)
  have c4 := h.c5
  clear h hC hu hl
  go_enter Tryz.func136, Tryz.ntmps136
  go_wp2_with fail
  refine HL.out.mono ?_
  rintro e w1 ⟨rfl, rfl⟩
  go_wp2_with fail
  refine HW.out.mono ?_
  rintro e w1 ⟨A, n, cap, rfl, b1, hk⟩
  have HK := hid hk
  clear b1 hk HW HL
  go_wp2_with fail
  refine HK.out.mono ?_
  rintro e w2 ⟨⟨A', cap', rfl⟩, b2⟩
  go_wp2_with fail
  go_ret
  exact ⟨⟨_, _, rfl⟩, b2⟩
end
end Go.Proofs.YtdfkdgnhpdgphaaGreatDoor

/-
  A store: links.
-/
namespace Go.Proofs.YtdfkdgnhpdgphaaGreatDoor
open Go.RowKit Go.Proofs.Lig
attribute [local go_sem] run_store_float

set_option maxRecDepth 100000 in
theorem links1 (w : World) (K : Nat) (b : Bool) (v : EdgV) (hK : Blk w K 4 [.bool b]) :
    Calls Tryz.prog 192 #[.agg #[.int .i64 v.src, .int .i64 v.dst, .string v.ty, .float .f64 v.w], pt K] w fun e w' => (∃ u, e = .returned u) ∧ Blk w' K 4 [.bool true] ∧ Fr [K] w w' := by
  have B1 := below_alloc w (.cells #[.int .i64 v.src, .int .i64 v.dst, .string v.ty, .float .f64 v.w] 38)
  have K1 := hK.below B1 hK.lt
  have k0 := K1.cell 0
  have kf := K1.frozen 0
  have kl := hK.lt
  simp only [List.getElem?_cons_zero] at k0
  have HK := hid hK
  clear hK B1 K1
  go_enter Tryz.func192, Tryz.ntmps192
  go_wp2
  go_end0
  exact ⟨⟨_, rfl⟩, (HK.out.set_ 0 _).alloc _, ((Fr.refl _ _).setCell (.inl (by simp)) _).alloc _⟩

set_option maxHeartbeats 1000000 in
set_option maxRecDepth 100000 in
theorem each_links (w : World) (X : Nat) (A : Option Addr) (cap : Nat) (l : List (Ver EdgV)) (h : Edg.CelA w X A cap l) (K : Nat) (hK : Blk w K 4 [.bool false]) :
    Calls Tryz.prog 151 #[pt X, .func (.func 192) #[] #[pt K]] w fun e w' => (∃ u, e = .returned u) ∧ Blk w' K 4 [.bool (l.any fun y => !y.gone)] ∧ Fr [K] w w' := by
  have hx := h.blk.cell 0
  have hln := h.len
  simp only [List.getElem?_cons_zero] at hx
  have HH := hid h
  have HK := hid hK
  have hxk : X ≠ K := fun e => by subst e; have := (h.blk.inj hK).1; cases this
  have HXK := hid hxk
  clear h hK hxk
  go_enter Tryz.func151, Tryz.ntmps151
  go_wp2_with fail
  go_loopw [13] (fun i wr => ∃ j : Nat, j ≤ l.length ∧ i = .int .i64 (j : Int) ∧ Hid (Blk wr K 4 [.bool ((l.take j).any fun y => !y.gone)]) ∧ Hid (Fr [K] w wr)) (fun i _ => l.length - (intOf i).toNat)
  case atStart => exact ⟨0, Nat.zero_le _, rfl, HK, Fr.refl _ _⟩
  case round =>
    obtain ⟨j, hj, rfl, HKR, HW⟩ := hrel
    by_cases hlt : j < l.length
    · obtain ⟨y, hy⟩ : ∃ y, l[j]? = some y := ⟨_, List.getElem?_eq_getElem hlt⟩
      have ht : TFr [4] w wr := .of_fr HW.out (fun k hk => by
        obtain rfl : k = K := by simpa using hk
        exact ⟨_, _, _, HK.out, by simp⟩)
      have HA := hid (HH.out.tfr ht (by decide))
      obtain ⟨g, rfl, hgl⟩ := HA.out.form (by omega)
      obtain ⟨c0, c1, c2, c3, c4, c5⟩ := Edg.row_ver HA.out.own hy
      have htk : l.take (j + 1) = l.take j ++ [y] := by rw [List.take_add_one, hy]; rfl
      obtain ⟨who, v, gone⟩ := y
      have B1 := below_alloc wr (.cells #[.int .i64 who, .int .i64 v.src, .int .i64 v.dst, .string v.ty, .float .f64 v.w, .bool gone] 280)
      have HK1 := hid (HKR.out.below B1 HKR.out.lt)
      have HF1 := hid (HW.out.step B1)
      have HTK : Hid (((l.take (j + 1)).any fun y => !y.gone) = (((l.take j).any fun y => !y.gone) || !gone)) := by show _ = _; rw [htk]; simp
      clear hy htk B1 ht
      cases gone
      · go_wp2_with fail
        refine (links1 _ K _ v HK1.out).mono ?_
        rintro e w2 ⟨⟨u, rfl⟩, k2, f2⟩
        have K2 : Hid (Blk w2 K 4 [.bool ((l.take (j + 1)).any fun y => !y.gone)]) := by
          show Blk _ _ _ _
          rw [HTK.out]
          simpa using k2
        have F2 := hid (HF1.out.trans_same f2)
        clear k2 f2
        go_wp2_with fail
        go_roundw
        case rel => exact ⟨j + 1, by omega, by go_num, K2, F2⟩
        case measure => simp [intOf]; omega
      · have K2 : Hid (Blk (wr.alloc (.cells #[.int .i64 who, .int .i64 v.src, .int .i64 v.dst, .string v.ty, .float .f64 v.w, .bool true] 280)) K 4 [.bool ((l.take (j + 1)).any fun y => !y.gone)]) := by
          show Blk _ _ _ _
          rw [HTK.out]
          simpa using HK1.out
        go_wp2_with fail
        go_roundw
        case rel => exact ⟨j + 1, by omega, by go_num, K2, HF1⟩
        case measure => simp [intOf]; omega
    · obtain rfl : j = l.length := by omega
      have HKR' : Hid (Blk wr K 4 [.bool (l.any fun y => !y.gone)]) := by
        have := HKR.out
        rw [List.take_length] at this
        exact this
      go_wp2_with fail
      go_end0
      exact ⟨⟨_, rfl⟩, HKR'.out, HW.out⟩

set_option maxRecDepth 100000 in
/-- A pair of ends. -/
theorem StoA.endAt {O : Nat → Prop} {w : World} {s : Nat} {p : StoP} {d : StoD} (h : StoA O w s p d) {i : Nat} {x : Int × Int} (hx : d.ends[i]? = some x) : ∃ g, p.dA = some ⟨g, 0, none⟩ ∧ w.cell? ⟨g, i * 2, none⟩ = some (.int .i64 x.1) ∧ w.cell? ⟨g, i * 2 + 1, none⟩ = some (.int .i64 x.2) ∧ g < w.heap.size ∧ O g ∧ i < d.ends.length ∧ d.ends.length ≤ 9223372036854775807 := by
  have hi := (List.getElem?_eq_some_iff.1 hx).1
  have key : ∀ (l : List (Int × Int)) (j : Nat), l[j]? = some x → (encEnds l)[j * 2]? = some (.int .i64 x.1) ∧ (encEnds l)[j * 2 + 1]? = some (.int .i64 x.2) := by
    intro l
    induction l with
    | nil => intro j hj; simp at hj
    | cons y l ih =>
      intro j hj
      cases j with
      | zero => simp at hj; subst hj; exact ⟨rfl, rfl⟩
      | succ j =>
        obtain ⟨h1, h2⟩ := ih j (by simpa using hj)
        have e : ∀ k, (encEnds (y :: l))[(j + 1) * 2 + k]? = (encEnds l)[j * 2 + k]? := fun k => by
          show ([Value.int .i64 y.1, .int .i64 y.2] ++ encEnds l)[_]? = _
          rw [List.getElem?_append_right (by simp; omega)]
          congr 1
          simp
          omega
        exact ⟨(e 0).trans h1, (e 1).trans h2⟩
  rcases h.drow.own.2 with ⟨hv, h0⟩ | ⟨g, cap', cur, hv, _, hh, r1, r2, r⟩
  · omega
  · injection hv with e1 _ e3
    have hrow := h.drow.own
    rw [e1] at hrow
    obtain ⟨q1, q2⟩ := key d.ends i hx
    exact ⟨g, e1, (hrow.cellAt _ (by omega)).trans q1, (hrow.cellAt _ (by omega)).trans q2, (Array.getElem?_eq_some_iff.1 hh).1, h.drow.at_ g (by rw [e1]; rfl), hi, by unfold maxLen at r2; omega⟩
/-- A chain as Add leaves it, from none, or from one that has it. -/
def chnAdded (D : Option (Int × Int)) (which id : Int) : Option (Int × Int) := match D with | none => some (which, id) | some x => some x
set_option maxRecDepth 100000 in
theorem chn_add {w : World} {X : Nat} {S : List Nat} {D : Option (Int × Int)} (h : ChnS w X S D) (which id : Int) (hD : D = none ∨ chnHas D which id = true) :
    Calls Tryz.prog 193 #[pt X, .int .i64 which, .int .i64 id] w fun e w' => (∃ u, e = .returned u) ∧ ∃ S', ChnS w' X S' (chnAdded D which id) ∧ Sub S' S w.heap.size ∧ Fr S w w' := by
  rcases hD with rfl | hD
  · exact (chn_add_none w X S h which id).mono fun e w' ⟨he, r⟩ => ⟨⟨_, he⟩, r⟩
  · refine (chn_add_there w X S D h which id hD).mono ?_
    rintro e w' ⟨rfl, rfl⟩
    refine ⟨⟨_, rfl⟩, S, ?_, Sub.refl _ _, Fr.refl _ _⟩
    cases D with
    | none => simp [chnHas] at hD
    | some x => exact h

set_option maxHeartbeats 2000000 in
set_option maxRecDepth 100000 in
theorem sto_links {O : Nat → Prop} {w : World} {s : Nat} {p : StoP} {d : StoD} (h : StoA O w s p d) (hO : NewO O w) (i : Nat) (x : Int × Int) (hx : d.ends[i]? = some x) (l : List (Ver EdgV)) (hl : d.es[i]? = some l) (hg : (l.any fun y => !y.gone) = true)
    (hco : d.co = none ∨ chnHas d.co x.1 ((i : Int) + 1) = true) (hci : d.ci = none ∨ chnHas d.ci x.2 ((i : Int) + 1) = true) :
    Calls Tryz.prog 114 #[pt s, .int .i64 ((i : Int) + 1)] w fun e w' => (∃ u, e = .returned u) ∧ StoA O w' s p { d with co := chnAdded d.co x.1 ((i : Int) + 1), ci := chnAdded d.ci x.2 ((i : Int) + 1) } ∧ FrO O w w' ∧ TFr stoT w w' := by
  obtain ⟨g, hgA, e0', e1', hgl, _, hil, hmx⟩ := h.endAt hx
  have hti : ((i : Int) + 1).toNat - 1 = i := by omega
  obtain ⟨X, S, hX, hC⟩ := h.edgeAt ((i : Int) + 1) l (by rw [hti]; exact hl)
  have c3 := h.c3
  rw [hgA] at c3
  have HH := hid h
  have HO := hid hO
  have HX := hid hX
  have HC := hid hC
  have HCO := hid hco
  have HCI := hid hci
  have HG := hid hg
  have hi0 : (0 : Int) ≤ (i : Int) := by omega
  have hi1 : (i : Int) < (d.ends.length : Int) := by omega
  have hi2 : (i : Int) ≤ 9223372036854775806 := by omega
  obtain ⟨n, hn⟩ : ∃ n, d.ends.length = n := ⟨_, rfl⟩
  rw [hn] at c3 hi1
  have hw1 : IntKind.i64.wrap ((i : Int) + 1 - 1) = (i : Int) := by rw [IntKind.wrap_i64]; omega
  have hsl := h.blk.lt
  clear h hO hX hC hco hci hg hl hx hil hmx hgA hn hti
  obtain ⟨x1, x2⟩ := x
  simp only at e0' e1' HCO HCI
  go_enter Tryz.func114, Tryz.ntmps114
  go_wp2_with fail
  have B2 := (below_alloc w (.cells #[.int .i64 x1, .int .i64 x2] 261)).alloc (by simp) (.cells #[.bool false] 4)
  have E2 := (Blk.new w 261 [.int .i64 x1, .int .i64 x2]).alloc (.cells #[.bool false] 4)
  have K2 := Blk.new (w.alloc (.cells #[.int .i64 x1, .int .i64 x2] 261)) 4 [.bool false]
  rw [World.size_alloc] at K2
  have H2 := hid (HH.out.below B2)
  have HEa := hid (by
    obtain ⟨A, cap, hc, _⟩ := HC.out
    exact each_links _ X A cap l (hc.below B2) (w.heap.size + 1) K2)
  have E2 := hid E2
  have K2 := hid K2
  have B2 := hid B2
  refine (sto_edge H2.out ((i : Int) + 1) X (by omega) HX.out).mono ?_
  rintro e w3 ⟨rfl, rfl⟩
  go_wp2_with fail
  refine HEa.out.mono ?_
  rintro e w3 ⟨⟨u, rfl⟩, k3, f3⟩
  rw [HG.out] at k3
  have t3 : TFr [4] _ w3 := .of_fr f3 (fun k hk => by
    obtain rfl : k = w.heap.size + 1 := by simpa using hk
    exact ⟨_, _, _, K2.out, by simp⟩)
  have H3 := hid (H2.out.tfr t3 (by decide))
  have E3 := hid (E2.out.tfr t3 (by decide))
  have F3 : Hid (FrO O w w3) := (FrO.of_below B2.out).trans (.of_fr f3 (fun k hk => by
    obtain rfl : k = w.heap.size + 1 := by simpa using hk
    exact HO.out _ (by omega)))
  have T3 : Hid (TFr stoT w w3) := by
    show TFr _ _ _
    intro k o hk ht
    have h1 := (TFr.of_below (ts := stoT) B2.out) k o hk ht
    have hkl := (Array.getElem?_eq_some_iff.1 hk).1
    rw [← h1]
    exact f3.block k (by simp; omega) (by simp; omega)
  have kk : w3.cell? ⟨w.heap.size + 1, 0, none⟩ = some (.bool true) := k3.cell 0
  have q0 : w3.cell? ⟨w.heap.size, 0, none⟩ = some (.int .i64 x1) := E3.out.cell 0
  have c4 := H3.out.c4
  obtain ⟨SO, hCO, hSO, turnO⟩ := (H3.out.drewN 1).chainO
  have HA := hid (chn_add hCO x1 ((i : Int) + 1) HCO.out)
  have TO := hid turnO
  clear k3 f3 t3 HEa H2 E2 K2 c3 e0' e1' hw1 hCO hSO turnO
  go_wp2_with fail
  go_region_held3 (fun W => W.cell? ⟨s, 4, none⟩ = some (pt p.o) ∧ W.cell? ⟨w.heap.size, 0, none⟩ = some (.int .i64 x1))
    (first
      | exact ⟨c4, q0⟩
      | exact ⟨r4, r0⟩
      | go_keep)
    (first
      | (go_at_call 193
         refine HA.out.mono ?_
         rintro e w4 ⟨⟨u, rfl⟩, S', z1, z2, z3⟩
         obtain ⟨H4, F4, T4⟩ := TO.out w4 S' _ z1 z2 z3 (HO.out.step F3.out.size)
         have r4 := H4.c4
         have r0 : w4.cell? ⟨w.heap.size, 0, none⟩ = some (.int .i64 x1) := ((E3.out.drewN 1).tfr T4 (by decide)).cell 0))
  have E4 := hid ((E3.out.drewN 1).tfr T4 (by decide))
  have H4 := hid H4
  have F4 := hid ((F3.out.drewN 1).trans F4)
  have T4 := hid ((T3.out.trans (.of_below (below_drewN' _ 1))).trans (T4.mono (by decide)))
  have q1 : w4.cell? ⟨w.heap.size, 1, none⟩ = some (.int .i64 x2) := E4.out.cell 1
  have c5 := H4.out.c5
  obtain ⟨SI, hCI, hSI, turnI⟩ := (H4.out.drewN 1).chainI
  have HAI := hid (chn_add hCI x2 ((i : Int) + 1) HCI.out)
  have TI := hid turnI
  clear z1 z2 z3 r4 r0 c4 q0 kk hCI hSI turnI
  go_wp2_with fail
  go_region_held3 (fun W => W.cell? ⟨s, 5, none⟩ = some (pt p.i) ∧ W.cell? ⟨w.heap.size, 1, none⟩ = some (.int .i64 x2))
    (first
      | exact ⟨c5, q1⟩
      | exact ⟨r4, r0⟩
      | go_keep)
    (first
      | (go_at_call 193
         refine HAI.out.mono ?_
         rintro e w5 ⟨⟨u, rfl⟩, S', z1, z2, z3⟩
         obtain ⟨H5, F5, T5⟩ := TI.out w5 S' _ z1 z2 z3 (HO.out.step F4.out.size)
         have r4 := H5.c5
         have r0 : w5.cell? ⟨w.heap.size, 1, none⟩ = some (.int .i64 x2) := ((E4.out.drewN 1).tfr T5 (by decide)).cell 1))
  have H5 := hid H5
  have F5 := hid ((F4.out.drewN 1).trans F5)
  have T5 := hid ((T4.out.trans (.of_below (below_drewN' _ 1))).trans (T5.mono (by decide)))
  clear z1 z2 z3 r4 r0
  go_wp2_with fail
  go_end0
  exact ⟨⟨_, rfl⟩, H5.out, F5.out, T5.out⟩
end Go.Proofs.YtdfkdgnhpdgphaaGreatDoor

/-
  A store: Abort of one that has written nothing.
-/
namespace Go.Proofs.YtdfkdgnhpdgphaaGreatDoor
open Go.RowKit Go.Proofs.Lig

section
variable {O : Nat → Prop} {w w' : World} {s : Nat} {p : StoP} {d : StoD}
set_option maxRecDepth 100000 in
theorem set_same {α : Type} {l : List α} {i : Nat} {x : α} (h : l[i]? = some x) : l.set i x = l := by
  apply List.ext_getElem?
  intro j
  rw [List.getElem?_set]
  split
  · rename_i e
    subst e
    split
    · exact h.symm
    · rename_i hn
      rw [List.getElem?_eq_none (by omega)]
  · rfl
set_option maxRecDepth 100000 in
theorem nod_undo (h : StoA O w s p d) (hO : NewO O w) (i : Nat) (l : List (Ver NodV)) (hl : d.ns[i]? = some l) (t : Int) (hw : ∀ y ∈ l, (y.who == t) = false) : ∃ X, p.Xs[i]? = some X ∧
    Calls Tryz.prog 126 #[pt X, .int .i64 t] w fun e w' => (∃ u, e = .returned u) ∧ StoA O w' s p d ∧ FrO O w w' ∧ TFr stoT w w' := by
  obtain ⟨X, S, hX, hC, hS, turn⟩ := h.onNode hl
  refine ⟨X, hX, ?_⟩
  have hC' := hC
  obtain ⟨A, cap, hA, rfl⟩ := hC'
  refine (Nod.cel_undo_none w X A cap l t hA hw).mono ?_
  rintro e w' ⟨he, q1, q2⟩
  have q2' : Fr (X :: (Value.slice A l.length cap).ownBlock.toList) w w' := q2.mono (fun k hk => .inl (by simp at hk; simp [hk]))
  obtain ⟨z1, z2⟩ := turn w' _ l ⟨A, cap, q1, rfl⟩ (Sub.refl _ _) q2' hO (h.bare l (List.mem_of_getElem? hl))
  rw [set_same hl] at z1
  exact ⟨he, z1, .of_fr q2' hS, z2.mono (by decide)⟩
set_option maxRecDepth 100000 in
theorem edg_undo (h : StoA O w s p d) (hO : NewO O w) (i : Nat) (l : List (Ver EdgV)) (hl : d.es[i]? = some l) (t : Int) (hw : ∀ y ∈ l, (y.who == t) = false) : ∃ X, p.Ys[i]? = some X ∧
    Calls Tryz.prog 127 #[pt X, .int .i64 t] w fun e w' => (∃ u, e = .returned u) ∧ StoA O w' s p d ∧ FrO O w w' ∧ TFr stoT w w' := by
  obtain ⟨X, S, hX, hC, hS, turn⟩ := h.onEdge hl
  refine ⟨X, hX, ?_⟩
  have hC' := hC
  obtain ⟨A, cap, hA, rfl⟩ := hC'
  refine (Edg.cel_undo_none w X A cap l t hA hw).mono ?_
  rintro e w' ⟨he, q1, q2⟩
  have q2' : Fr (X :: (Value.slice A l.length cap).ownBlock.toList) w w' := q2.mono (fun k hk => .inl (by simp at hk; simp [hk]))
  obtain ⟨z1, z2⟩ := turn w' _ l ⟨A, cap, q1, rfl⟩ (Sub.refl _ _) q2' hO
  rw [set_same hl] at z1
  exact ⟨he, z1, .of_fr q2' hS, z2.mono (by decide)⟩
/-- The i-th edge has a version that is not gone, and is on its chains. -/
def Linked (d : StoD) (i : Nat) : Prop := ∃ x l, d.ends[i]? = some x ∧ d.es[i]? = some l ∧ (l.any fun y => !y.gone) = true ∧ chnHas d.co x.1 ((i : Int) + 1) = true ∧ chnHas d.ci x.2 ((i : Int) + 1) = true
set_option maxRecDepth 100000 in
theorem sto_links_same (h : StoA O w s p d) (hO : NewO O w) (i : Nat) (hi : Linked d i) :
    Calls Tryz.prog 114 #[pt s, .int .i64 ((i : Int) + 1)] w fun e w' => (∃ u, e = .returned u) ∧ StoA O w' s p d ∧ FrO O w w' ∧ TFr stoT w w' := by
  obtain ⟨x, l, hx, hl, hg, hco, hci⟩ := hi
  refine (sto_links h hO i x hx l hl hg (.inr hco) (.inr hci)).mono ?_
  rintro e w' ⟨he, z1, z2, z3⟩
  refine ⟨he, ?_, z2, z3⟩
  have e1 : chnAdded d.co x.1 ((i : Int) + 1) = d.co := by
    cases hd : d.co with
    | none => rw [hd] at hco; simp [chnHas] at hco
    | some y => rfl
  have e2 : chnAdded d.ci x.2 ((i : Int) + 1) = d.ci := by
    cases hd : d.ci with
    | none => rw [hd] at hci; simp [chnHas] at hci
    | some y => rfl
  rw [e1, e2] at z1
  exact z1

set_option maxHeartbeats 4000000 in
set_option maxRecDepth 100000 in
theorem sto_abort (h : StoA O w s p d) (hO : NewO O w) (t : Int) (hl : d.c.live t = true) (hn : ∀ l ∈ d.ns, ∀ y ∈ l, (y.who == t) = false) (he : ∀ l ∈ d.es, ∀ y ∈ l, (y.who == t) = false) (hk : ∀ i, i < d.es.length → Linked d i) :
    Calls Tryz.prog 57 #[pt s, .int .i64 t] w fun e w' => e = .returned (.int .i64 0) ∧ StoA O w' s p { d with c := d.c.dropped t } ∧ FrO O w w' ∧ TFr stoT w w' := by
  obtain ⟨S, hc, hS⟩ := h.clk
  have HB := hid (abort_S w p.C S d.c t hc hl h.good)
  have c0 := h.c0
  have HH := hid h
  have HO := hid hO
  have HC := hid hc
  have HS := hid hS
  have HN := hid hn
  have HE := hid he
  have HK := hid hk
  obtain ⟨d1, hd1⟩ : ∃ d1 : StoD, d1 = { d with c := d.c.dropped t } := ⟨_, rfl⟩
  have HD1 := hid hd1
  clear h hO hc hS hl hn he hk
  go_enter Tryz.func57, Tryz.ntmps57
  go_wp2_with fail
  refine HB.out.mono ?_
  rintro e w1 ⟨rfl, q1, q3⟩
  have Q1 : Hid (StoA O w1 s p d1) := by
    show StoA _ _ _ _ _
    rw [hd1]
    exact HH.out.onClk HC.out q1 (Sub.refl _ _) q3 HO.out HS.out (HH.out.good.dropped t)
  have F1 := hid (FrO.of_frS q3 HS.out HC.out.typed)
  have FF1 := hid F1.out.1
  have TT1 := hid (F1.out.2.mono (ts' := stoT) (by decide))
  have hnl : d1.ns = d.ns := by rw [hd1]
  have hel : d1.es = d.es := by rw [hd1]
  have HN1 : Hid (∀ l ∈ d1.ns, ∀ y ∈ l, (y.who == t) = false) := by rw [hnl]; exact HN
  have HE1 : Hid (∀ l ∈ d1.es, ∀ y ∈ l, (y.who == t) = false) := by rw [hel]; exact HE
  have HK1 : Hid (∀ i, i < d1.es.length → Linked d1 i) := by rw [hel]; show ∀ i, _; intro i hi; have := HK.out i hi; rw [hd1]; exact this
  have c1 := Q1.out.c1
  have hnm : (d1.ns.length : Int) ≤ 9223372036854775807 := by
    rcases Nat.eq_zero_or_pos d1.ns.length with h0 | h0
    · omega
    · have hx : 0 < p.Xs.length := by rw [Q1.out.nodes.len]; exact h0
      obtain ⟨g, _, _, _, _, ⟨_, hm⟩, _⟩ := Q1.out.nrow.get (i := 0) (v := pt (p.Xs[0])) (by simp [hx])
      omega
  obtain ⟨NA, hNA⟩ : ∃ A, p.nA = A := ⟨_, rfl⟩
  rw [hNA] at c1
  have HNA := hid hNA
  clear q1 q3 F1 hd1 hnl hel HB c0 HH HC HS hNA
  go_wp2_with fail
  go_loopw [26] (fun v wr => ∃ j : Nat, j ≤ d1.ns.length ∧ v = .int .i64 (j : Int) ∧ Hid (StoA O wr s p d1) ∧ Hid (FrO O w wr) ∧ Hid (TFr stoT w wr)) (fun v _ => d1.ns.length - (intOf v).toNat)
  case atStart => exact ⟨0, Nat.zero_le _, rfl, Q1, FF1, TT1⟩
  case round =>
    obtain ⟨j, hj, rfl, HS, HW, HT⟩ := hrel
    clear c1
    by_cases hlt : j < d1.ns.length
    · obtain ⟨l, hl⟩ : ∃ l, d1.ns[j]? = some l := ⟨_, List.getElem?_eq_getElem hlt⟩
      obtain ⟨X, hX, hU⟩ := nod_undo HS.out (HO.out.step HW.out.size) j l hl t (HN1.out l (List.mem_of_getElem? hl))
      obtain ⟨g, hA, hc, _, _, _, _⟩ := HS.out.nrow.get (i := j) (v := pt X) (by rw [List.getElem?_map, hX]; rfl)
      rw [HNA.out] at hA
      subst hA
      have HU := hid hU
      have hjI : (j : Int) < (d1.ns.length : Int) := by omega
      have hj0 : (0 : Int) ≤ (j : Int) := by omega
      clear hU hX hl
      go_wp2_with fail
      refine HU.out.mono ?_
      rintro e w2 ⟨⟨u, rfl⟩, z1, z2, z3⟩
      have HFD := hid (sto_finds z1 j hlt)
      have F2 := hid (HW.out.trans z2)
      have T2 := hid (HT.out.trans z3)
      clear z1 z2 z3 HU hc
      go_wp2_with fail
      refine HFD.out.mono ?_
      rintro e w3 ⟨⟨u2, rfl⟩, z1, z2, z3⟩
      have Z1 := hid z1
      have Z2 := hid (F2.out.trans z2)
      have Z3 := hid (T2.out.trans z3)
      clear z1 z2 z3 HFD
      go_wp2_with fail
      go_roundw
      case rel => exact ⟨j + 1, by omega, by go_num, Z1, Z2, Z3⟩
      case measure => simp [intOf]; omega
    · obtain rfl : j = d1.ns.length := by omega
      have c2 := HS.out.c2
      obtain ⟨EA, hEA⟩ : ∃ A, p.eA = A := ⟨_, rfl⟩
      rw [hEA] at c2
      have HEA := hid hEA
      clear hEA
      have hem : (d1.es.length : Int) ≤ 9223372036854775807 := by
        rcases Nat.eq_zero_or_pos d1.es.length with h0 | h0
        · omega
        · have hx : 0 < p.Ys.length := by rw [HS.out.edges.len]; exact h0
          obtain ⟨g, _, _, _, _, ⟨_, hm⟩, _⟩ := HS.out.erow.get (i := 0) (v := pt (p.Ys[0])) (by simp [hx])
          omega
      go_wp2_with fail
      clear c2
      go_loopw [44] (fun v wr => ∃ j : Nat, j ≤ d1.es.length ∧ v = .int .i64 (j : Int) ∧ Hid (StoA O wr s p d1) ∧ Hid (FrO O w wr) ∧ Hid (TFr stoT w wr)) (fun v _ => d1.es.length - (intOf v).toNat)
      case atStart => exact ⟨0, Nat.zero_le _, rfl, HS, HW, HT⟩
      case round =>
        clear HS HW HT hlt
        obtain ⟨j, hj, rfl, HS, HW, HT⟩ := hrel
        by_cases hlt : j < d1.es.length
        · obtain ⟨l, hl⟩ : ∃ l, d1.es[j]? = some l := ⟨_, List.getElem?_eq_getElem hlt⟩
          obtain ⟨X, hX, hU⟩ := edg_undo HS.out (HO.out.step HW.out.size) j l hl t (HE1.out l (List.mem_of_getElem? hl))
          obtain ⟨g, hA, hc, _, _, _, _⟩ := HS.out.erow.get (i := j) (v := pt X) (by rw [List.getElem?_map, hX]; rfl)
          rw [HEA.out] at hA
          subst hA
          have HU := hid hU
          have hjI : (j : Int) < (d1.es.length : Int) := by omega
          have hj0 : (0 : Int) ≤ (j : Int) := by omega
          clear hU hX hl
          go_wp2_with fail
          refine HU.out.mono ?_
          rintro e w2 ⟨⟨u, rfl⟩, z1, z2, z3⟩
          have HFD := hid (sto_links_same z1 (HO.out.step (Nat.le_trans HW.out.size z2.size)) j (HK1.out j hlt))
          have F2 := hid (HW.out.trans z2)
          have T2 := hid (HT.out.trans z3)
          clear z1 z2 z3 HU hc
          go_wp2_with fail
          refine HFD.out.mono ?_
          rintro e w3 ⟨⟨u2, rfl⟩, z1, z2, z3⟩
          have Z1 := hid z1
          have Z2 := hid (F2.out.trans z2)
          have Z3 := hid (T2.out.trans z3)
          clear z1 z2 z3 HFD
          go_wp2_with fail
          go_roundw
          case rel => exact ⟨j + 1, by omega, by go_num, Z1, Z2, Z3⟩
          case measure => simp [intOf]; omega
        · obtain rfl : j = d1.es.length := by omega
          go_wp2_with fail
          go_ret
          exact ⟨rfl, by rw [← HD1.out]; exact HS.out, HW.out, HT.out⟩
end
end Go.Proofs.YtdfkdgnhpdgphaaGreatDoor
