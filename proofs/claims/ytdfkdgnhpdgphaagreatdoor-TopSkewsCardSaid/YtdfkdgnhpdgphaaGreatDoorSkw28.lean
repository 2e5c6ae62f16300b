/-
  A store: touches.
-/
import Derived.Test.YtdfkdgnhpdgphaaGreatDoorSkw23
import Derived.Test.YtdfkdgnhpdgphaaGreatDoorSkw3
namespace Go.Proofs.YtdfkdgnhpdgphaaGreatDoor
open Go.RowKit Go.Proofs.Lig

/-- Nodes (by their places) written as they are read. -/
def touchedN (t : Int) : List (List (Ver NodV)) → List Nat → List (List (Ver NodV))
  | ns, [] => ns
  | ns, i :: r => touchedN t (ns.set i (Cel.written ((ns[i]?).getD []) t e0 false)) r
/-- .. each is read, and may be written, when its turn comes. -/
def TouchOk (c : Clk) (t : Int) : List (List (Ver NodV)) → List Nat → Prop
  | _, [] => True
  | ns, i :: r => (∃ l, ns[i]? = some l ∧ (Cel.lastBy (c.sees t) l).isSome = true ∧ Cel.blocked c l t = false ∧ l.length ≤ 1000000) ∧ TouchOk c t (ns.set i (Cel.written ((ns[i]?).getD []) t e0 false)) r
section
variable {O : Nat → Prop} {w w' : World} {s : Nat} {p : StoP} {d : StoD}
set_option maxHeartbeats 4000000 in
set_option maxRecDepth 100000 in
theorem sto_touches (h : StoA O w s p d) (hO : NewO O w) (t : Int) (L : Nat) (is : List Nat) (hL : Blk w L 3 (is.map fun (i : Nat) => .int .i64 ((i : Int) + 1))) (hn : is.length ≤ 1000) (hok : TouchOk d.c t d.ns is) :
    Calls Tryz.prog 218 #[pt s, .int .i64 t, .slice (some ⟨L, 0, none⟩) is.length is.length] w fun e w' => (∃ u, e = .returned u) ∧ StoA O w' s p { d with ns := touchedN t d.ns is } ∧ FrO O w w' ∧ TFr stoT w w' := by
  have HH := hid h
  have HO := hid hO
  have HL := hid hL
  have HK := hid hok
  clear h hO hL hok
  go_enter Tryz.func218, Tryz.ntmps218
  go_wp2_with fail
  go_loopw [12] (fun v wr => ∃ (j : Nat) (ns : List (List (Ver NodV))) (r : List Nat), j + r.length = is.length ∧ v = .int .i64 (j : Int) ∧ Hid (is.drop j = r ∧ touchedN t ns r = touchedN t d.ns is) ∧ Hid (TouchOk d.c t ns r) ∧ Hid (StoA O wr s p { d with ns := ns }) ∧ Hid (FrO O w wr) ∧ Hid (TFr stoT w wr)) (fun v _ => is.length - (intOf v).toNat)
  case atStart => exact ⟨0, d.ns, is, by omega, rfl, ⟨rfl, rfl⟩, HK, HH, FrO.refl _ _, TFr.refl _ _⟩
  case round =>
    obtain ⟨j, ns, r, hj, rfl, HD, HR1, HS, HW, HT⟩ := hrel
    cases r with
    | nil =>
      have hje : j = is.length := by simpa using hj
      subst hje
      go_wp2_with fail
      go_end0
      have := HD.out.2
      simp only [touchedN] at this
      rw [← this]
      exact ⟨⟨_, rfl⟩, HS.out, HW.out, HT.out⟩
    | cons i r =>
      obtain ⟨⟨l, hl, hok1, hbl, hnl⟩, hrest⟩ := HR1.out
      have hjl : j < is.length := by simp at hj; omega
      have hji : is[j]? = some i := by
        have := HD.out.1
        have h2 : (is.drop j)[0]? = some i := by rw [this]; rfl
        simpa using h2
      have hjI : (j : Int) < (is.length : Int) := by omega
      have li : wr.cell? ⟨L, j, none⟩ = some (.int .i64 ((i : Int) + 1)) := by
        have h1 := (HL.out.tfr HT.out (by decide)).cell j
        rw [h1, List.getElem?_map, hji]
        rfl
      have hti : ((i : Int) + 1).toNat - 1 = i := by omega
      obtain ⟨X, S, hX, hC, hb⟩ := HS.out.nodeAt ((i : Int) + 1) (by omega) l (by rw [hti]; exact hl)
      have HN := hid (fun W (hW : Below wr.heap.size wr W) => sto_node (HS.out.below hW) ((i : Int) + 1) X (by omega) hX)
      have HR := hid (fun W (hW : Below wr.heap.size wr W) => nod_read (HS.out.below hW) (hC.tfr (ts := []) (.of_below hW) (by simp)) hb t true hok1)
      have B1 := below_drewN' wr 1
      have B2 := hid (B1.alloc (o := .cells #[.slice none 0 0, .slice none 0 0] 35) (by simp))
      have c0 := HS.out.c0
      have hlt := HS.out.blk.lt
      have HLI := hid hl
      have HBL := hid hbl
      have HNL := hid hnl
      have HREST := hid hrest
      have HDI := hid hji
      have FIN : Hid (∀ w5, Hid (StoA O w5 s p { { d with ns := ns } with ns := ns.set i (Cel.written l t e0 false) }) → Hid (FrO O w w5) → Hid (TFr stoT w w5) → ∃ (j' : Nat) (ns' : List (List (Ver NodV))) (r' : List Nat), j' + r'.length = is.length ∧ Value.int .i64 ((j : Int) + 1) = .int .i64 (j' : Int) ∧ Hid (is.drop j' = r' ∧ touchedN t ns' r' = touchedN t d.ns is) ∧ Hid (TouchOk d.c t ns' r') ∧ Hid (StoA O w5 s p { d with ns := ns' }) ∧ Hid (FrO O w w5) ∧ Hid (TFr stoT w w5)) := fun w5 h1 h2 h3 => by
        have e : (ns[i]?).getD [] = l := by rw [HLI.out]; rfl
        refine ⟨j + 1, ns.set i (Cel.written l t e0 false), r, by simp at hj; omega, by go_num, ⟨?_, ?_⟩, ?_, h1, h2, h3⟩
        · have := HD.out.1
          rw [← List.drop_drop, this]
          rfl
        · have := HD.out.2
          simp only [touchedN, e] at this
          exact this
        · have := HREST.out
          rw [e] at this
          exact this
      clear hok1 hbl hnl hrest hji hl hX hC hb hti hj
      go_wp2_with fail
      -- REGION touches
      refine wp_region_held_drew (S := fun W => W.cell? ⟨s, 0, none⟩ = some (pt p.C)) (by kernel_rfl) c0 (fun hHeld => ?_)
      refine wpAnyH_take (i := 0) (oi := { dst := some 17, op := Op.move (Operand.tmp 0), type := 56, pos := "store.go:181", after := #[], guard := none }) (v := ?_) rfl (by kernel_rfl) (by kernel_rfl) (by kernel_rfl) (fun _ _ _ h => h) (Or.inl ⟨by rfl, ?_⟩) hHeld ?_
      rotate_left
      · (intro W1 hSw; (try dsimp only at hSw); go_simp; first | done | (with_reducible rfl))
      try simp only [Act.put, List.setIfInBounds_toArray, List.set_cons_zero, List.set_cons_succ]
      refine wpAnyH_take (i := 1) (oi := { dst := some 18, op := Op.move (Operand.tmp 7), type := 3, pos := "store.go:181", after := #[], guard := none }) (v := ?_) rfl (by kernel_rfl) (by kernel_rfl) (by kernel_rfl) (fun _ _ _ h => h) (Or.inl ⟨by rfl, ?_⟩) hHeld ?_
      rotate_left
      · (intro W1 hSw; (try dsimp only at hSw); go_simp; first | done | (with_reducible rfl))
      try simp only [Act.put, List.setIfInBounds_toArray, List.set_cons_zero, List.set_cons_succ]
      refine wpAnyH_take (i := 3) (oi := { dst := some 20, op := Op.move (Operand.tmp 0), type := 56, pos := "store.go:181", after := #[], guard := none }) (v := ?_) rfl (by kernel_rfl) (by kernel_rfl) (by kernel_rfl) (fun _ _ _ h => h) (Or.inl ⟨by rfl, ?_⟩) hHeld ?_
      rotate_left
      · (intro W1 hSw; (try dsimp only at hSw); go_simp; first | done | (with_reducible rfl))
      try simp only [Act.put, List.setIfInBounds_toArray, List.set_cons_zero, List.set_cons_succ]
      refine wpAnyH_take (i := 4) (oi := { dst := some 21, op := Op.nilCheck (Operand.tmp 20), type := 0, pos := "store.go:181", after := #[{ on := 3, ground := Ground.data }], guard := none }) (v := ?_) rfl (by kernel_rfl) (by kernel_rfl) (by kernel_rfl) (fun _ _ _ h => h) (Or.inl ⟨by rfl, ?_⟩) hHeld ?_
      rotate_left
      · (intro W1 hSw; (try dsimp only at hSw); go_simp; first | done | (with_reducible rfl))
      try simp only [Act.put, List.setIfInBounds_toArray, List.set_cons_zero, List.set_cons_succ]
      refine wpAnyH_take (i := 5) (oi := { dst := some 22, op := Op.fieldAddr 99 (Operand.tmp 21) 0, type := 0, pos := "store.go:181", after := #[{ on := 4, ground := Ground.data }], guard := none }) (v := ?_) rfl (by kernel_rfl) (by kernel_rfl) (by kernel_rfl) (fun _ _ _ h => h) (Or.inl ⟨by rfl, ?_⟩) hHeld ?_
      rotate_left
      · (intro W1 hSw; (try dsimp only at hSw); go_simp; first | done | (with_reducible rfl))
      try simp only [Act.put, List.setIfInBounds_toArray, List.set_cons_zero, List.set_cons_succ]
      refine wpAnyH_take (i := 6) (oi := { dst := some 23, op := Op.load 91 (Operand.tmp 22), type := 91, pos := "store.go:181", after := #[{ on := 5, ground := Ground.data }], guard := none }) (v := ?_) rfl (by kernel_rfl) (by kernel_rfl) (by kernel_rfl) (fun _ _ _ h => h) (Or.inl ⟨by rfl, ?_⟩) hHeld ?_
      rotate_left
      · (intro W1 hSw; (try dsimp only at hSw); go_simp; first | done | (with_reducible rfl))
      try simp only [Act.put, List.setIfInBounds_toArray, List.set_cons_zero, List.set_cons_succ]
      refine wpAnyH_take (i := 7) (oi := { dst := some 24, op := Op.move (Operand.tmp 1), type := 3, pos := "store.go:181", after := #[], guard := none }) (v := ?_) rfl (by kernel_rfl) (by kernel_rfl) (by kernel_rfl) (fun _ _ _ h => h) (Or.inl ⟨by rfl, ?_⟩) hHeld ?_
      rotate_left
      · (intro W1 hSw; (try dsimp only at hSw); go_simp; first | done | (with_reducible rfl))
      try simp only [Act.put, List.setIfInBounds_toArray, List.set_cons_zero, List.set_cons_succ]
      refine wpAnyH_ready (rs := [2, 12]) (by kernel_rfl) (by simp) ?_
      refine AllReadyH.cons (o := { dst := some 19, op := Op.call { callee := Callee.value (Operand.func 157), args := #[Operand.tmp 17, Operand.tmp 18], argTypes := #[56, 3] }, type := 88, pos := "store.go:181", after := #[{ on := 0, ground := Ground.data }, { on := 1, ground := Ground.data }], guard := none }) rfl (fun K hK => ?_) (AllReadyH.cons (o := { dst := some 8, op := Op.alloc 35, type := 0, pos := "store.go:181", after := #[], guard := none }) rfl (fun K hK => ?_) AllReadyH.nil)
      · rw [if_pos (by rfl)]
        go_simp
        go_at_call 157
        refine (HN.out _ B1).mono ?_
        rintro e wn ⟨rfl, rfl⟩
        refine hK.out _ _ hHeld (fun hHeld => ?_)
        clear hK K
        try simp only [Act.put, List.setIfInBounds_toArray, List.set_cons_zero, List.set_cons_succ]
        refine wpAnyH_ready (rs := [8, 12]) (by kernel_rfl) (by simp) ?_
        refine AllReadyH.cons (o := { dst := some 25, op := Op.call { callee := Callee.value (Operand.func 205), args := #[Operand.tmp 19, Operand.tmp 23, Operand.tmp 24], argTypes := #[88, 91, 3] }, type := 89, pos := "store.go:181", after := #[{ on := 2, ground := Ground.data }, { on := 6, ground := Ground.data }, { on := 7, ground := Ground.data }, { on := 2, ground := Ground.chain }], guard := none }) rfl (fun K hK => ?_) (AllReadyH.cons (o := { dst := some 8, op := Op.alloc 35, type := 0, pos := "store.go:181", after := #[], guard := none }) rfl (fun K hK => ?_) AllReadyH.nil)
        · rw [if_pos (by rfl)]
          go_simp
          go_at_call 205
          refine (HR.out _ B1).mono ?_
          rintro e w1 ⟨rfl, b1⟩
          have B3 := bstep B1 (Nat.le_refl _) b1
          refine hK.out _ _ ((B3.cell (p := ⟨s, 0, none⟩) hlt).trans c0) (fun hHeld => ?_)
          clear hK K
          try simp only [Act.put, List.setIfInBounds_toArray, List.set_cons_zero, List.set_cons_succ]
          refine wpAnyH_take (i := 9) (oi := { dst := some 16, op := Op.move (Operand.tmp 25), type := 89, pos := "store.go:181", after := #[{ on := 8, ground := Ground.data }], guard := none }) (v := ?_) rfl (by kernel_rfl) (by kernel_rfl) (by kernel_rfl) (fun _ _ _ h => h) (Or.inl ⟨by rfl, ?_⟩) hHeld ?_
          rotate_left
          · (intro W1 hSw; (try dsimp only at hSw); go_simp; first | done | (with_reducible rfl))
          try simp only [Act.put, List.setIfInBounds_toArray, List.set_cons_zero, List.set_cons_succ]
          refine wpAnyH_take (i := 10) (oi := { dst := some 26, op := Op.extract (Operand.tmp 16) 0, type := 35, pos := "store.go:181", after := #[{ on := 9, ground := Ground.data }], guard := none }) (v := ?_) rfl (by kernel_rfl) (by kernel_rfl) (by kernel_rfl) (fun _ _ _ h => h) (Or.inl ⟨by rfl, ?_⟩) hHeld ?_
          rotate_left
          · (intro W1 hSw; (try dsimp only at hSw); go_simp; first | done | (with_reducible rfl))
          try simp only [Act.put, List.setIfInBounds_toArray, List.set_cons_zero, List.set_cons_succ]
          refine wpAnyH_take (i := 11) (oi := { dst := some 27, op := Op.extract (Operand.tmp 16) 1, type := 4, pos := "store.go:181", after := #[{ on := 9, ground := Ground.data }, { on := 13, ground := Ground.gcOnly Departure.lateStores }], guard := none }) (v := ?_) rfl (by kernel_rfl) (by kernel_rfl) (by kernel_rfl) (fun _ _ _ h => h) (Or.inl ⟨by rfl, ?_⟩) hHeld ?_
          rotate_left
          · (intro W1 hSw; (try dsimp only at hSw); go_simp; first | done | (with_reducible rfl))
          try simp only [Act.put, List.setIfInBounds_toArray, List.set_cons_zero, List.set_cons_succ]
          refine wpAnyH_ready (rs := [12]) (by kernel_rfl) (by simp) ?_
          refine AllReadyH.cons (o := { dst := some 8, op := Op.alloc 35, type := 0, pos := "store.go:181", after := #[], guard := none }) rfl (fun K hK => ?_) AllReadyH.nil
          have B3 := (bstep B1 (Nat.le_refl _) b1).alloc (o := (.cells #[.slice none 0 0, .slice none 0 0] 35)) (by have := b1.size; simpa using this)
          rw [if_pos (by rfl)]
          go_simp
          refine hK.out _ _ ((B3.cell (p := ⟨s, 0, none⟩) hlt).trans c0) (fun hHeld => ?_)
          clear hK K
          try simp only [Act.put, List.setIfInBounds_toArray, List.set_cons_zero, List.set_cons_succ]
          refine wpAnyH_ready (rs := [13]) (by kernel_rfl) (by simp) ?_
          refine AllReadyH.cons (o := { dst := none, op := Op.store 35 (Operand.tmp 8) (Operand.tmp 26), type := 0, pos := "store.go:181", after := #[{ on := 12, ground := Ground.data }, { on := 10, ground := Ground.data }, { on := 8, ground := Ground.chain }, { on := 0, ground := Ground.phase }, { on := 1, ground := Ground.phase }, { on := 2, ground := Ground.phase }, { on := 3, ground := Ground.phase }, { on := 4, ground := Ground.phase }, { on := 5, ground := Ground.phase }, { on := 6, ground := Ground.phase }, { on := 7, ground := Ground.phase }, { on := 8, ground := Ground.phase }, { on := 9, ground := Ground.phase }, { on := 10, ground := Ground.phase }, { on := 11, ground := Ground.textOnly Departure.lateStores }, { on := 12, ground := Ground.phase }], guard := none }) rfl (fun K hK => ?_) AllReadyH.nil
          rw [if_pos (by rfl)]
          have B4 := (bstep B1 (Nat.le_refl _) b1).alloc (o := (.cells #[.slice none 0 0, .slice none 0 0] 35)) (by have := b1.size; simpa using this)
          have A4 := Blk.new w1 35 [.slice none 0 0, .slice none 0 0]
          go_simp
          refine hK.out _ _ ((B4.cell (p := ⟨s, 0, none⟩) hlt).trans c0) (fun hHeld => ?_)
          clear hK K
          try simp only [Act.put, List.setIfInBounds_toArray, List.set_cons_zero, List.set_cons_succ]
          refine wpAnyH_take (i := 14) (oi := { dst := some 9, op := Op.assign (Operand.tmp 27), type := 4, pos := "store.go:181", after := #[{ on := 11, ground := Ground.data }, { on := 13, ground := Ground.chain }, { on := 0, ground := Ground.phase }, { on := 1, ground := Ground.phase }, { on := 2, ground := Ground.phase }, { on := 3, ground := Ground.phase }, { on := 4, ground := Ground.phase }, { on := 5, ground := Ground.phase }, { on := 6, ground := Ground.phase }, { on := 7, ground := Ground.phase }, { on := 8, ground := Ground.phase }, { on := 9, ground := Ground.phase }, { on := 10, ground := Ground.phase }, { on := 11, ground := Ground.phase }, { on := 12, ground := Ground.phase }, { on := 13, ground := Ground.phase }], guard := none }) (v := ?_) rfl (by kernel_rfl) (by kernel_rfl) (by kernel_rfl) (fun _ _ _ h => h) (Or.inl ⟨by rfl, ?_⟩) hHeld ?_
          rotate_left
          · (intro W1 hSw; (try dsimp only at hSw); go_simp; first | done | (with_reducible rfl))
          try simp only [Act.put, List.setIfInBounds_toArray, List.set_cons_zero, List.set_cons_succ]
          refine wpAnyH_done (by kernel_rfl) ?_ _
          have HB4 := hid B4
          have HA4 := hid A4
          clear B4 A4
          have v0 := HA4.out.cell 0
          have v1 := HA4.out.cell 1
          try simp only [List.getElem?_cons_zero, List.getElem?_cons_succ] at v0 v1
          clear b1 B1 B2 c0
          go_wp2_with fail
          refine (sto_puts (HS.out.below HB4.out) (HO.out.step (Nat.le_trans HW.out.size HB4.out.size)) t i l HLI.out false HBL.out HNL.out).mono ?_
          rintro e w5 ⟨⟨u, rfl⟩, z1, z2, z3⟩
          have Z1 := hid z1
          have Z2 : Hid (FrO O w w5) := (HW.out.step HB4.out).trans z2
          have Z3 : Hid (TFr stoT w w5) := (HT.out.trans (.of_below HB4.out)).trans z3
          clear z1 z2 z3 v0 v1
          go_wp2_with fail
          go_roundw
          case rel => exact FIN.out _ Z1 Z2 Z3
          case measure => simp [intOf]; omega
        · rw [if_pos (by rfl)]
          go_simp
          refine hK.out _ _ ((B2.out.cell (p := ⟨s, 0, none⟩) hlt).trans c0) (fun hHeld => ?_)
          clear hK K
          try simp only [Act.put, List.setIfInBounds_toArray, List.set_cons_zero, List.set_cons_succ]
          refine wpAnyH_ready (rs := [8]) (by kernel_rfl) (by simp) ?_
          refine AllReadyH.cons (o := { dst := some 25, op := Op.call { callee := Callee.value (Operand.func 205), args := #[Operand.tmp 19, Operand.tmp 23, Operand.tmp 24], argTypes := #[88, 91, 3] }, type := 89, pos := "store.go:181", after := #[{ on := 2, ground := Ground.data }, { on := 6, ground := Ground.data }, { on := 7, ground := Ground.data }, { on := 2, ground := Ground.chain }], guard := none }) rfl (fun K hK => ?_) AllReadyH.nil
          rw [if_pos (by rfl)]
          go_simp
          go_at_call 205
          refine (HR.out _ B2.out).mono ?_
          rintro e w1 ⟨rfl, b1⟩
          have B3 := bstep B2.out (Nat.le_refl _) b1
          have HA1 := hid ((Blk.new wr.drew 35 [.slice none 0 0, .slice none 0 0]).below b1 (by simp))
          refine hK.out _ _ ((B3.cell (p := ⟨s, 0, none⟩) hlt).trans c0) (fun hHeld => ?_)
          clear hK K
          try simp only [Act.put, List.setIfInBounds_toArray, List.set_cons_zero, List.set_cons_succ]
          refine wpAnyH_take (i := 9) (oi := { dst := some 16, op := Op.move (Operand.tmp 25), type := 89, pos := "store.go:181", after := #[{ on := 8, ground := Ground.data }], guard := none }) (v := ?_) rfl (by kernel_rfl) (by kernel_rfl) (by kernel_rfl) (fun _ _ _ h => h) (Or.inl ⟨by rfl, ?_⟩) hHeld ?_
          rotate_left
          · (intro W1 hSw; (try dsimp only at hSw); go_simp; first | done | (with_reducible rfl))
          try simp only [Act.put, List.setIfInBounds_toArray, List.set_cons_zero, List.set_cons_succ]
          refine wpAnyH_take (i := 10) (oi := { dst := some 26, op := Op.extract (Operand.tmp 16) 0, type := 35, pos := "store.go:181", after := #[{ on := 9, ground := Ground.data }], guard := none }) (v := ?_) rfl (by kernel_rfl) (by kernel_rfl) (by kernel_rfl) (fun _ _ _ h => h) (Or.inl ⟨by rfl, ?_⟩) hHeld ?_
          rotate_left
          · (intro W1 hSw; (try dsimp only at hSw); go_simp; first | done | (with_reducible rfl))
          try simp only [Act.put, List.setIfInBounds_toArray, List.set_cons_zero, List.set_cons_succ]
          refine wpAnyH_take (i := 11) (oi := { dst := some 27, op := Op.extract (Operand.tmp 16) 1, type := 4, pos := "store.go:181", after := #[{ on := 9, ground := Ground.data }, { on := 13, ground := Ground.gcOnly Departure.lateStores }], guard := none }) (v := ?_) rfl (by kernel_rfl) (by kernel_rfl) (by kernel_rfl) (fun _ _ _ h => h) (Or.inl ⟨by rfl, ?_⟩) hHeld ?_
          rotate_left
          · (intro W1 hSw; (try dsimp only at hSw); go_simp; first | done | (with_reducible rfl))
          try simp only [Act.put, List.setIfInBounds_toArray, List.set_cons_zero, List.set_cons_succ]
          refine wpAnyH_ready (rs := [13]) (by kernel_rfl) (by simp) ?_
          refine AllReadyH.cons (o := { dst := none, op := Op.store 35 (Operand.tmp 8) (Operand.tmp 26), type := 0, pos := "store.go:181", after := #[{ on := 12, ground := Ground.data }, { on := 10, ground := Ground.data }, { on := 8, ground := Ground.chain }, { on := 0, ground := Ground.phase }, { on := 1, ground := Ground.phase }, { on := 2, ground := Ground.phase }, { on := 3, ground := Ground.phase }, { on := 4, ground := Ground.phase }, { on := 5, ground := Ground.phase }, { on := 6, ground := Ground.phase }, { on := 7, ground := Ground.phase }, { on := 8, ground := Ground.phase }, { on := 9, ground := Ground.phase }, { on := 10, ground := Ground.phase }, { on := 11, ground := Ground.textOnly Departure.lateStores }, { on := 12, ground := Ground.phase }], guard := none }) rfl (fun K hK => ?_) AllReadyH.nil
          rw [if_pos (by rfl)]
          have a0 : w1.cell? ⟨wr.heap.size, 0, none⟩ = some (.slice none 0 0) := HA1.out.cell 0
          have a1 : w1.cell? ⟨wr.heap.size, 1, none⟩ = some (.slice none 0 0) := HA1.out.cell 1
          have f0 : w1.frozen? ⟨wr.heap.size, 0, none⟩ = false := HA1.out.frozen 0
          have f1 : w1.frozen? ⟨wr.heap.size, 1, none⟩ = false := HA1.out.frozen 1
          have hwl : wr.heap.size < w1.heap.size := HA1.out.lt
          have B4 := (((bstep B2.out (Nat.le_refl _) b1).setCell (p := ⟨wr.heap.size, 0, none⟩) (Nat.le_refl _) (.slice none 0 0)).setCell (p := ⟨wr.heap.size, 1, none⟩) (Nat.le_refl _) (.slice none 0 0))
          have A4 := ((HA1.out.set_ 0 (.slice none 0 0)).set_ 1 (.slice none 0 0))
          go_simp
          refine hK.out _ _ ((B4.cell (p := ⟨s, 0, none⟩) hlt).trans c0) (fun hHeld => ?_)
          clear hK K
          try simp only [Act.put, List.setIfInBounds_toArray, List.set_cons_zero, List.set_cons_succ]
          refine wpAnyH_take (i := 14) (oi := { dst := some 9, op := Op.assign (Operand.tmp 27), type := 4, pos := "store.go:181", after := #[{ on := 11, ground := Ground.data }, { on := 13, ground := Ground.chain }, { on := 0, ground := Ground.phase }, { on := 1, ground := Ground.phase }, { on := 2, ground := Ground.phase }, { on := 3, ground := Ground.phase }, { on := 4, ground := Ground.phase }, { on := 5, ground := Ground.phase }, { on := 6, ground := Ground.phase }, { on := 7, ground := Ground.phase }, { on := 8, ground := Ground.phase }, { on := 9, ground := Ground.phase }, { on := 10, ground := Ground.phase }, { on := 11, ground := Ground.phase }, { on := 12, ground := Ground.phase }, { on := 13, ground := Ground.phase }], guard := none }) (v := ?_) rfl (by kernel_rfl) (by kernel_rfl) (by kernel_rfl) (fun _ _ _ h => h) (Or.inl ⟨by rfl, ?_⟩) hHeld ?_
          rotate_left
          · (intro W1 hSw; (try dsimp only at hSw); go_simp; first | done | (with_reducible rfl))
          try simp only [Act.put, List.setIfInBounds_toArray, List.set_cons_zero, List.set_cons_succ]
          refine wpAnyH_done (by kernel_rfl) ?_ _
          have HB4 := hid B4
          have HA4 := hid A4
          clear B4 A4
          have v0 := HA4.out.cell 0
          have v1 := HA4.out.cell 1
          try simp only [List.getElem?_cons_zero, List.getElem?_cons_succ, World.size_alloc] at v0 v1
          clear b1 B1 B2 c0
          go_wp2_with fail
          refine (sto_puts (HS.out.below HB4.out) (HO.out.step (Nat.le_trans HW.out.size HB4.out.size)) t i l HLI.out false HBL.out HNL.out).mono ?_
          rintro e w5 ⟨⟨u, rfl⟩, z1, z2, z3⟩
          have Z1 := hid z1
          have Z2 : Hid (FrO O w w5) := (HW.out.step HB4.out).trans z2
          have Z3 : Hid (TFr stoT w w5) := (HT.out.trans (.of_below HB4.out)).trans z3
          clear z1 z2 z3 v0 v1
          go_wp2_with fail
          go_roundw
          case rel => exact FIN.out _ Z1 Z2 Z3
          case measure => simp [intOf]; omega
      · rw [if_pos (by rfl)]
        go_simp
        refine hK.out _ _ ((B2.out.cell (p := ⟨s, 0, none⟩) hlt).trans c0) (fun hHeld => ?_)
        clear hK K
        try simp only [Act.put, List.setIfInBounds_toArray, List.set_cons_zero, List.set_cons_succ]
        refine wpAnyH_ready (rs := [2]) (by kernel_rfl) (by simp) ?_
        refine AllReadyH.cons (o := { dst := some 19, op := Op.call { callee := Callee.value (Operand.func 157), args := #[Operand.tmp 17, Operand.tmp 18], argTypes := #[56, 3] }, type := 88, pos := "store.go:181", after := #[{ on := 0, ground := Ground.data }, { on := 1, ground := Ground.data }], guard := none }) rfl (fun K hK => ?_) AllReadyH.nil
        rw [if_pos (by rfl)]
        go_simp
        go_at_call 157
        refine (HN.out _ B2.out).mono ?_
        rintro e wn ⟨rfl, rfl⟩
        refine hK.out _ _ hHeld (fun hHeld => ?_)
        clear hK K
        try simp only [Act.put, List.setIfInBounds_toArray, List.set_cons_zero, List.set_cons_succ]
        refine wpAnyH_ready (rs := [8]) (by kernel_rfl) (by simp) ?_
        refine AllReadyH.cons (o := { dst := some 25, op := Op.call { callee := Callee.value (Operand.func 205), args := #[Operand.tmp 19, Operand.tmp 23, Operand.tmp 24], argTypes := #[88, 91, 3] }, type := 89, pos := "store.go:181", after := #[{ on := 2, ground := Ground.data }, { on := 6, ground := Ground.data }, { on := 7, ground := Ground.data }, { on := 2, ground := Ground.chain }], guard := none }) rfl (fun K hK => ?_) AllReadyH.nil
        rw [if_pos (by rfl)]
        go_simp
        go_at_call 205
        refine (HR.out _ B2.out).mono ?_
        rintro e w1 ⟨rfl, b1⟩
        have B3 := bstep B2.out (Nat.le_refl _) b1
        have HA1 := hid ((Blk.new wr.drew 35 [.slice none 0 0, .slice none 0 0]).below b1 (by simp))
        refine hK.out _ _ ((B3.cell (p := ⟨s, 0, none⟩) hlt).trans c0) (fun hHeld => ?_)
        clear hK K
        try simp only [Act.put, List.setIfInBounds_toArray, List.set_cons_zero, List.set_cons_succ]
        refine wpAnyH_take (i := 9) (oi := { dst := some 16, op := Op.move (Operand.tmp 25), type := 89, pos := "store.go:181", after := #[{ on := 8, ground := Ground.data }], guard := none }) (v := ?_) rfl (by kernel_rfl) (by kernel_rfl) (by kernel_rfl) (fun _ _ _ h => h) (Or.inl ⟨by rfl, ?_⟩) hHeld ?_
        rotate_left
        · (intro W1 hSw; (try dsimp only at hSw); go_simp; first | done | (with_reducible rfl))
        try simp only [Act.put, List.setIfInBounds_toArray, List.set_cons_zero, List.set_cons_succ]
        refine wpAnyH_take (i := 10) (oi := { dst := some 26, op := Op.extract (Operand.tmp 16) 0, type := 35, pos := "store.go:181", after := #[{ on := 9, ground := Ground.data }], guard := none }) (v := ?_) rfl (by kernel_rfl) (by kernel_rfl) (by kernel_rfl) (fun _ _ _ h => h) (Or.inl ⟨by rfl, ?_⟩) hHeld ?_
        rotate_left
        · (intro W1 hSw; (try dsimp only at hSw); go_simp; first | done | (with_reducible rfl))
        try simp only [Act.put, List.setIfInBounds_toArray, List.set_cons_zero, List.set_cons_succ]
        refine wpAnyH_take (i := 11) (oi := { dst := some 27, op := Op.extract (Operand.tmp 16) 1, type := 4, pos := "store.go:181", after := #[{ on := 9, ground := Ground.data }, { on := 13, ground := Ground.gcOnly Departure.lateStores }], guard := none }) (v := ?_) rfl (by kernel_rfl) (by kernel_rfl) (by kernel_rfl) (fun _ _ _ h => h) (Or.inl ⟨by rfl, ?_⟩) hHeld ?_
        rotate_left
        · (intro W1 hSw; (try dsimp only at hSw); go_simp; first | done | (with_reducible rfl))
        try simp only [Act.put, List.setIfInBounds_toArray, List.set_cons_zero, List.set_cons_succ]
        refine wpAnyH_ready (rs := [13]) (by kernel_rfl) (by simp) ?_
        refine AllReadyH.cons (o := { dst := none, op := Op.store 35 (Operand.tmp 8) (Operand.tmp 26), type := 0, pos := "store.go:181", after := #[{ on := 12, ground := Ground.data }, { on := 10, ground := Ground.data }, { on := 8, ground := Ground.chain }, { on := 0, ground := Ground.phase }, { on := 1, ground := Ground.phase }, { on := 2, ground := Ground.phase }, { on := 3, ground := Ground.phase }, { on := 4, ground := Ground.phase }, { on := 5, ground := Ground.phase }, { on := 6, ground := Ground.phase }, { on := 7, ground := Ground.phase }, { on := 8, ground := Ground.phase }, { on := 9, ground := Ground.phase }, { on := 10, ground := Ground.phase }, { on := 11, ground := Ground.textOnly Departure.lateStores }, { on := 12, ground := Ground.phase }], guard := none }) rfl (fun K hK => ?_) AllReadyH.nil
        rw [if_pos (by rfl)]
        have a0 : w1.cell? ⟨wr.heap.size, 0, none⟩ = some (.slice none 0 0) := HA1.out.cell 0
        have a1 : w1.cell? ⟨wr.heap.size, 1, none⟩ = some (.slice none 0 0) := HA1.out.cell 1
        have f0 : w1.frozen? ⟨wr.heap.size, 0, none⟩ = false := HA1.out.frozen 0
        have f1 : w1.frozen? ⟨wr.heap.size, 1, none⟩ = false := HA1.out.frozen 1
        have hwl : wr.heap.size < w1.heap.size := HA1.out.lt
        have B4 := (((bstep B2.out (Nat.le_refl _) b1).setCell (p := ⟨wr.heap.size, 0, none⟩) (Nat.le_refl _) (.slice none 0 0)).setCell (p := ⟨wr.heap.size, 1, none⟩) (Nat.le_refl _) (.slice none 0 0))
        have A4 := ((HA1.out.set_ 0 (.slice none 0 0)).set_ 1 (.slice none 0 0))
        go_simp
        refine hK.out _ _ ((B4.cell (p := ⟨s, 0, none⟩) hlt).trans c0) (fun hHeld => ?_)
        clear hK K
        try simp only [Act.put, List.setIfInBounds_toArray, List.set_cons_zero, List.set_cons_succ]
        refine wpAnyH_take (i := 14) (oi := { dst := some 9, op := Op.assign (Operand.tmp 27), type := 4, pos := "store.go:181", after := #[{ on := 11, ground := Ground.data }, { on := 13, ground := Ground.chain }, { on := 0, ground := Ground.phase }, { on := 1, ground := Ground.phase }, { on := 2, ground := Ground.phase }, { on := 3, ground := Ground.phase }, { on := 4, ground := Ground.phase }, { on := 5, ground := Ground.phase }, { on := 6, ground := Ground.phase }, { on := 7, ground := Ground.phase }, { on := 8, ground := Ground.phase }, { on := 9, ground := Ground.phase }, { on := 10, ground := Ground.phase }, { on := 11, ground := Ground.phase }, { on := 12, ground := Ground.phase }, { on := 13, ground := Ground.phase }], guard := none }) (v := ?_) rfl (by kernel_rfl) (by kernel_rfl) (by kernel_rfl) (fun _ _ _ h => h) (Or.inl ⟨by rfl, ?_⟩) hHeld ?_
        rotate_left
        · (intro W1 hSw; (try dsimp only at hSw); go_simp; first | done | (with_reducible rfl))
        try simp only [Act.put, List.setIfInBounds_toArray, List.set_cons_zero, List.set_cons_succ]
        refine wpAnyH_done (by kernel_rfl) ?_ _
        have HB4 := hid B4
        have HA4 := hid A4
        clear B4 A4
        have v0 := HA4.out.cell 0
        have v1 := HA4.out.cell 1
        try simp only [List.getElem?_cons_zero, List.getElem?_cons_succ, World.size_alloc] at v0 v1
        clear b1 B1 B2 c0
        go_wp2_with fail
        refine (sto_puts (HS.out.below HB4.out) (HO.out.step (Nat.le_trans HW.out.size HB4.out.size)) t i l HLI.out false HBL.out HNL.out).mono ?_
        rintro e w5 ⟨⟨u, rfl⟩, z1, z2, z3⟩
        have Z1 := hid z1
        have Z2 : Hid (FrO O w w5) := (HW.out.step HB4.out).trans z2
        have Z3 : Hid (TFr stoT w w5) := (HT.out.trans (.of_below HB4.out)).trans z3
        clear z1 z2 z3 v0 v1
        go_wp2_with fail
        go_roundw
        case rel => exact FIN.out _ Z1 Z2 Z3
        case measure => simp [intOf]; omega
      -- END REGION touches
end
end Go.Proofs.YtdfkdgnhpdgphaaGreatDoor
