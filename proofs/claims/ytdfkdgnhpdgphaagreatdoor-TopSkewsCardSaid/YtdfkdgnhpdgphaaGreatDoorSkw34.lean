/-
  The log over a drum of noughts: Open.
-/
import Derived.Deep.RegionHeld3
import Derived.Test.YtdfkdgnhpdgphaaGreatDoorSkw33
namespace Go.Proofs.YtdfkdgnhpdgphaaGreatDoor
open Go.RowKit Go.Proofs.Lig

/-- A log's cells. -/
def logCells (D : Nat) (hn hb hl : Int) (v : Value) (cnt : Int) : List Value := [.pointer (some ⟨D, 0, none⟩), .int .i64 hn, .int .i64 hb, .int .i64 hl, v, .int .i64 cnt, .bool false]
set_option maxRecDepth 100000 in
theorem bank_u8s (m : Nat) : u8s (List.replicate m 0) = List.replicate m (.int .u8 0) := by simp [u8s]

theorem brow_cut {w : World} {base g cap : Nat} {xs : List Int} (h : BRow w base (some ⟨g, 0, none⟩) cap xs) : BRow w base (some ⟨g, 0, none⟩) cap [] := by
  refine ⟨⟨by simp [u8s], ?_⟩, fun x hx => by simp at hx⟩
  rcases h.own.2 with ⟨hv, _⟩ | ⟨g', cap', cur, hv, hg, hh, h1, h2, h3, h4⟩
  · injection hv with e1 _ _
    cases e1
  · injection hv with e1 _ e3
    injection e1 with e1
    injection e1 with e1
    subst e1 e3
    exact .inr ⟨g, cap, cur, rfl, hg, hh, Nat.zero_le _, h2, h3, by simp [u8s]⟩
set_option maxHeartbeats 600000 in
set_option maxRecDepth 100000 in
theorem redo_open0 (w : World) (N D G M n : Nat) (good : List Int) (wait : Value) (k : Nat) (ws : List Value) (h : Drm w N D G M n good (noughts n) wait k ws) (hn4 : 4 ≤ n) (hn : n ≤ 200) :
    Calls Tryz.prog 29 #[.pointer (some ⟨D, 0, none⟩)] w fun e w' => ∃ L A cap, e = .returned (.tuple #[.pointer (some ⟨L, 0, none⟩), .slice none 0 0, .int .i64 0]) ∧ w.heap.size ≤ L ∧ Blk w' L 152 (logCells D 0 0 0 (.slice A 0 cap) 0) ∧ BRow w' w.heap.size A cap [] ∧ Below w.heap.size w w' := by
  obtain ⟨i0, hi0, hz0, hz1, hz2⟩ := info_parts info_u8
  have HL := hid (drum_len h)
  have HNW := hid (redo_newest0 w N D G M n good wait k ws h hn4 hn)
  have HH := hid h
  have hn4i : (4 : Int) ≤ (n : Int) := by omega
  clear h
  go_enter Tryz.func29, Tryz.ntmps29
  go_wp2_with fail
  refine HL.out.mono ?_
  rintro e w1 ⟨rfl, rfl⟩
  go_wp2_with fail
  refine HNW.out.mono ?_
  rintro e w2 ⟨rfl, b2⟩
  have L3 := Blk.new w2 152 (logCells D 0 0 0 (.slice none 0 0) 0)
  have B3 : Below w.heap.size w (w2.alloc (.cells (logCells D 0 0 0 (.slice none 0 0) 0).toArray 152)) := b2.alloc b2.size _
  have HBK := hid (redo_bank (HH.out.below B3) hn4 hn)
  have hLb := b2.size
  go_wp2_with fail
  refine HBK.out.mono ?_
  rintro e w3 ⟨rfl, hw3⟩
  rw [hw3] at L3 B3
  generalize w2.heap.size = L at *
  clear hw3 HNW HBK HL b2
  have hb : (n - 2) / 2 ≤ 99 := by omega
  obtain ⟨b, hbb⟩ : ∃ b, (n - 2) / 2 = b := ⟨_, rfl⟩
  rw [hbb] at hb
  have HBB := hid hbb
  rw [hbb]
  have L3 := hid L3
  have B3 := hid B3
  have HLB := hid hLb
  clear hbb hLb
  go_wp2_with fail
  go_loopw [19] (fun i wr => ∃ (j : Nat) (A : Option Addr) (cap : Nat) (ys : List Int), j ≤ b ∧ i = .int .i64 (j : Int) ∧ Hid (ys.length = 64 * j) ∧ Hid (Blk wr L 152 (logCells D 0 0 0 (.slice A ys.length cap) 0)) ∧ Hid (BRow wr w.heap.size A cap ys) ∧ Hid (Below w.heap.size w wr)) (fun i _ => b - (intOf i).toNat)
  case atStart => exact ⟨0, none, 0, [], Nat.zero_le _, rfl, rfl, L3, ⟨World.ownsRow_nil _ _ _ _, fun x hx => by simp at hx⟩, B3⟩
  case round =>
    obtain ⟨j, A, cap, ys, hj, rfl, HY, HLG, HR, HW⟩ := hrel
    by_cases hlt : j < b
    · obtain ⟨q, hq⟩ : ∃ q, 2 + 0 * ((n - 2) / 2) + j = q := ⟨_, rfl⟩
      have hqn : q < n := by have := HBB.out; omega
      have hSC : ∀ W, Below w.heap.size w W → Calls Tryz.prog 65 #[.pointer (some ⟨D, 0, none⟩), .int .i64 0, .int .i64 (j : Int)] W fun e w' => e = .returned (.int .i64 (q : Int)) ∧ W = w' := fun W hW => by
        have := redo_sector (w := W) (HH.out.below hW) hn4 hn 0 j (by omega) (by have := HBB.out; omega)
        rw [hq] at this
        exact this
      have HRD := hid (fun W (hW : Below w.heap.size w W) => drum_read (w := W) (HH.out.below hW) q hqn)
      have HSC := hid hSC
      have HSL := hid (sec_len (bs := noughts n) (n := n) (i := q) (noughts_len n) hqn)
      clear hSC hq hqn
      have hLr : (Value.slice A ys.length cap).ownBlock ≠ some L := own_ne HR.out.own HLG.out (by decide)
      have HLR := hid hLr
      have HOWN : Hid (∀ W, Below wr.drew.heap.size wr.drew W → W.ownsRow w.heap.size 5 1 (.slice A ys.length cap) ys.length (u8s ys)) := fun W hW => own_tfr (ts := []) (show wr.drew.ownsRow _ _ _ _ _ _ from HR.out.own) (.of_below hW) (by simp)
      have l4 : wr.cell? ⟨L, 4, none⟩ = some (.slice A ys.length cap) := HLG.out.cell 4
      have l2 : wr.cell? ⟨L, 2, none⟩ = some (.int .i64 0) := HLG.out.cell 2
      have lf4 := HLG.out.frozen 4
      have hLl := HLG.out.lt
      clear hLr
      have HU64 : Hid ((u8s (sec (noughts n) q)).length = 64 * 1) := by show _ = _; rw [u8s_len, HSL.out]
      have HNO : Hid (∀ (wb : World) (A5 : Option Addr) (cap5 : Nat), BRow wb wr.drew.heap.size A5 cap5 (sec (noughts n) q) → A5 = none → 64 = 0) := fun wb A5 cap5 q5 e => by
        have h1 := (q5.src.2 e).1
        have h2 := HSL.out
        rw [h1] at h2
        simp at h2
      have H63 : Hid (ys.length + 64 ≤ maxLen) := by show _ ≤ _; have := HY.out; unfold maxLen; omega
      have HBY : Hid ((ys.length + 64) * 1 ≤ 140737488355328) := by show _ ≤ _; have := HY.out; omega
      have HWS : Hid (w.heap.size ≤ wr.drew.heap.size) := HW.out.size
      have hpos1 : 0 < 1 := by omega
      have FIN : Hid (∀ wb A5 cap5 A7 cap7 w7, Below wr.drew.heap.size wr.drew wb → BRow wb wr.drew.heap.size A5 cap5 (sec (noughts n) q) → w7.ownsRow w.heap.size 5 1 (.slice A7 (ys.length + 64) cap7) (ys.length + 64) (u8s ys ++ u8s (sec (noughts n) q)) → wb.grownBy w7 (Value.slice A ys.length cap).ownBlock → ((Value.slice A7 (ys.length + 64) cap7).ownBlock = (Value.slice A ys.length cap).ownBlock ∨ (Value.slice A7 (ys.length + 64) cap7).ownBlock = some wb.heap.size) → Blk w7 L 152 (logCells D 0 0 0 (.slice A ys.length cap) 0) →
          ∃ (j' : Nat) (A' : Option Addr) (cap' : Nat) (ys' : List Int), j' ≤ b ∧ Value.int .i64 ((j : Int) + 1) = .int .i64 (j' : Int) ∧ Hid (ys'.length = 64 * j') ∧ Hid (Blk (w7.setCell ⟨L, 4, none⟩ (.slice A7 (ys.length + 64) cap7)) L 152 (logCells D 0 0 0 (.slice A' ys'.length cap') 0)) ∧ Hid (BRow (w7.setCell ⟨L, 4, none⟩ (.slice A7 (ys.length + 64) cap7)) w.heap.size A' cap' ys') ∧ Hid (Below w.heap.size w (w7.setCell ⟨L, 4, none⟩ (.slice A7 (ys.length + 64) cap7)))) := fun wb A5 cap5 A7 cap7 w7 b5 q5 hown7 hgrow7 hat7 hL7 => by
        have hlen : (ys ++ sec (noughts n) q).length = ys.length + 64 := by rw [List.length_append, HSL.out]
        have hbL := (hL7.set_ 4 (.slice A7 (ys.length + 64) cap7))
        have hne : (Value.slice A7 (ys.length + 64) cap7).ownBlock ≠ some L := own_ne hown7 hL7 (by decide)
        refine ⟨j + 1, A7, cap7, ys ++ sec (noughts n) q, by omega, by go_num, by show _ = _; rw [hlen]; have := HY.out; omega, ?_, ?_, ?_⟩
        · rw [hlen]; exact hbL
        · refine ⟨?_, HR.out.bytes.append q5.bytes⟩
          rw [hlen, u8s_append]
          exact own_far hown7 hne _
        · have hb7 : Below w.heap.size wb w7 := grown_below (HOWN.out wb b5) (Nat.le_trans HWS.out b5.size) hgrow7
          exact (((bdrewN HW.out 1).trans (b5.mono HWS.out)).trans hb7).setCell (p := ⟨L, 4, none⟩) HLB.out _
      go_wp2_with fail
      -- REGION 7
      refine wp_region_held_drew (S := fun W => W.cell? ⟨L, 2, none⟩ = some (.int .i64 0)) (by kernel_rfl) l2 (fun hHeld => ?_)
      refine wpAnyH_take (i := 0) (oi := { dst := some 22, op := Op.move (Operand.tmp 5), type := 77, pos := "redo.go:70", after := #[], guard := none }) (v := ?_) rfl (by kernel_rfl) (by kernel_rfl) (by kernel_rfl) (fun _ _ _ h => h) (Or.inl ⟨by rfl, ?_⟩) hHeld ?_
      rotate_left
      · (intro W1 hSw; (try dsimp only at hSw); go_simp; first | done | (with_reducible rfl))
      try simp only [Act.put, List.setIfInBounds_toArray, List.set_cons_zero, List.set_cons_succ]
      refine wpAnyH_take (i := 1) (oi := { dst := some 23, op := Op.move (Operand.tmp 5), type := 77, pos := "redo.go:70", after := #[], guard := none }) (v := ?_) rfl (by kernel_rfl) (by kernel_rfl) (by kernel_rfl) (fun _ _ _ h => h) (Or.inl ⟨by rfl, ?_⟩) hHeld ?_
      rotate_left
      · (intro W1 hSw; (try dsimp only at hSw); go_simp; first | done | (with_reducible rfl))
      try simp only [Act.put, List.setIfInBounds_toArray, List.set_cons_zero, List.set_cons_succ]
      refine wpAnyH_take (i := 2) (oi := { dst := some 24, op := Op.nilCheck (Operand.tmp 23), type := 0, pos := "redo.go:70", after := #[{ on := 1, ground := Ground.data }], guard := none }) (v := ?_) rfl (by kernel_rfl) (by kernel_rfl) (by kernel_rfl) (fun _ _ _ h => h) (Or.inl ⟨by rfl, ?_⟩) hHeld ?_
      rotate_left
      · (intro W1 hSw; (try dsimp only at hSw); go_simp; first | done | (with_reducible rfl))
      try simp only [Act.put, List.setIfInBounds_toArray, List.set_cons_zero, List.set_cons_succ]
      refine wpAnyH_take (i := 3) (oi := { dst := some 25, op := Op.fieldAddr 152 (Operand.tmp 24) 2, type := 0, pos := "redo.go:70", after := #[{ on := 2, ground := Ground.data }], guard := none }) (v := ?_) rfl (by kernel_rfl) (by kernel_rfl) (by kernel_rfl) (fun _ _ _ h => h) (Or.inl ⟨by rfl, ?_⟩) hHeld ?_
      rotate_left
      · (intro W1 hSw; (try dsimp only at hSw); go_simp; first | done | (with_reducible rfl))
      try simp only [Act.put, List.setIfInBounds_toArray, List.set_cons_zero, List.set_cons_succ]
      refine wpAnyH_take (i := 5) (oi := { dst := some 27, op := Op.move (Operand.tmp 0), type := 25, pos := "redo.go:70", after := #[], guard := none }) (v := ?_) rfl (by kernel_rfl) (by kernel_rfl) (by kernel_rfl) (fun _ _ _ h => h) (Or.inl ⟨by rfl, ?_⟩) hHeld ?_
      rotate_left
      · (intro W1 hSw; (try dsimp only at hSw); go_simp; first | done | (with_reducible rfl))
      try simp only [Act.put, List.setIfInBounds_toArray, List.set_cons_zero, List.set_cons_succ]
      refine wpAnyH_take (i := 6) (oi := { dst := some 28, op := Op.move (Operand.tmp 0), type := 25, pos := "redo.go:70", after := #[], guard := none }) (v := ?_) rfl (by kernel_rfl) (by kernel_rfl) (by kernel_rfl) (fun _ _ _ h => h) (Or.inl ⟨by rfl, ?_⟩) hHeld ?_
      rotate_left
      · (intro W1 hSw; (try dsimp only at hSw); go_simp; first | done | (with_reducible rfl))
      try simp only [Act.put, List.setIfInBounds_toArray, List.set_cons_zero, List.set_cons_succ]
      refine wpAnyH_take (i := 7) (oi := { dst := some 29, op := Op.move (Operand.tmp 5), type := 77, pos := "redo.go:70", after := #[], guard := none }) (v := ?_) rfl (by kernel_rfl) (by kernel_rfl) (by kernel_rfl) (fun _ _ _ h => h) (Or.inl ⟨by rfl, ?_⟩) hHeld ?_
      rotate_left
      · (intro W1 hSw; (try dsimp only at hSw); go_simp; first | done | (with_reducible rfl))
      try simp only [Act.put, List.setIfInBounds_toArray, List.set_cons_zero, List.set_cons_succ]
      refine wpAnyH_take (i := 8) (oi := { dst := some 30, op := Op.nilCheck (Operand.tmp 29), type := 0, pos := "redo.go:70", after := #[{ on := 7, ground := Ground.data }], guard := none }) (v := ?_) rfl (by kernel_rfl) (by kernel_rfl) (by kernel_rfl) (fun _ _ _ h => h) (Or.inl ⟨by rfl, ?_⟩) hHeld ?_
      rotate_left
      · (intro W1 hSw; (try dsimp only at hSw); go_simp; first | done | (with_reducible rfl))
      try simp only [Act.put, List.setIfInBounds_toArray, List.set_cons_zero, List.set_cons_succ]
      refine wpAnyH_take (i := 9) (oi := { dst := some 31, op := Op.fieldAddr 152 (Operand.tmp 30) 1, type := 0, pos := "redo.go:70", after := #[{ on := 8, ground := Ground.data }], guard := none }) (v := ?_) rfl (by kernel_rfl) (by kernel_rfl) (by kernel_rfl) (fun _ _ _ h => h) (Or.inl ⟨by rfl, ?_⟩) hHeld ?_
      rotate_left
      · (intro W1 hSw; (try dsimp only at hSw); go_simp; first | done | (with_reducible rfl))
      try simp only [Act.put, List.setIfInBounds_toArray, List.set_cons_zero, List.set_cons_succ]
      refine wpAnyH_take (i := 10) (oi := { dst := some 32, op := Op.fieldAddr 149 (Operand.tmp 31) 1, type := 0, pos := "redo.go:70", after := #[{ on := 9, ground := Ground.data }], guard := none }) (v := ?_) rfl (by kernel_rfl) (by kernel_rfl) (by kernel_rfl) (fun _ _ _ h => h) (Or.inl ⟨by rfl, ?_⟩) hHeld ?_
      rotate_left
      · (intro W1 hSw; (try dsimp only at hSw); go_simp; first | done | (with_reducible rfl))
      try simp only [Act.put, List.setIfInBounds_toArray, List.set_cons_zero, List.set_cons_succ]
      refine wpAnyH_take (i := 11) (oi := { dst := some 33, op := Op.load 3 (Operand.tmp 32), type := 3, pos := "redo.go:70", after := #[{ on := 10, ground := Ground.data }], guard := none }) (v := ?_) rfl (by kernel_rfl) (by kernel_rfl) (by kernel_rfl) (fun _ _ _ h => h) (Or.inl ⟨by rfl, ?_⟩) hHeld ?_
      rotate_left
      · (intro W1 hSw; (try dsimp only at hSw); go_simp; first | done | (with_reducible rfl))
      try simp only [Act.put, List.setIfInBounds_toArray, List.set_cons_zero, List.set_cons_succ]
      refine wpAnyH_take (i := 12) (oi := { dst := some 34, op := Op.move (Operand.tmp 6), type := 3, pos := "redo.go:70", after := #[], guard := none }) (v := ?_) rfl (by kernel_rfl) (by kernel_rfl) (by kernel_rfl) (fun _ _ _ h => h) (Or.inl ⟨by rfl, ?_⟩) hHeld ?_
      rotate_left
      · (intro W1 hSw; (try dsimp only at hSw); go_simp; first | done | (with_reducible rfl))
      try simp only [Act.put, List.setIfInBounds_toArray, List.set_cons_zero, List.set_cons_succ]
      refine wpAnyH_ready (rs := [4, 13]) (by kernel_rfl) (by simp) ?_
      refine AllReadyH.cons (o := { dst := some 26, op := Op.load 81 (Operand.tmp 25), type := 81, pos := "redo.go:70", after := #[{ on := 3, ground := Ground.data }], guard := none }) rfl (fun K hK => ?_) (AllReadyH.cons (o := { dst := some 35, op := Op.call { callee := Callee.value (Operand.func 65), args := #[Operand.tmp 28, Operand.tmp 33, Operand.tmp 34], argTypes := #[25, 3, 3] }, type := 3, pos := "redo.go:70", after := #[{ on := 6, ground := Ground.data }, { on := 11, ground := Ground.data }, { on := 12, ground := Ground.data }], guard := none }) rfl (fun K hK => ?_) AllReadyH.nil)
      · rw [if_pos (by rfl)]
        go_simp
        refine hK.out _ _ hHeld (fun hHeld => ?_)
        clear hK K
        try simp only [Act.put, List.setIfInBounds_toArray, List.set_cons_zero, List.set_cons_succ]
        refine wpAnyH_ready (rs := [13]) (by kernel_rfl) (by simp) ?_
        refine AllReadyH.cons (o := { dst := some 35, op := Op.call { callee := Callee.value (Operand.func 65), args := #[Operand.tmp 28, Operand.tmp 33, Operand.tmp 34], argTypes := #[25, 3, 3] }, type := 3, pos := "redo.go:70", after := #[{ on := 6, ground := Ground.data }, { on := 11, ground := Ground.data }, { on := 12, ground := Ground.data }], guard := none }) rfl (fun K hK => ?_) AllReadyH.nil
        rw [if_pos (by rfl)]
        go_simp
        go_at_call 65
        refine (HSC.out _ (bdrewN HW.out 1)).mono ?_
        rintro e wa ⟨rfl, rfl⟩
        refine hK.out _ _ hHeld (fun hHeld => ?_)
        clear hK K
        try simp only [Act.put, List.setIfInBounds_toArray, List.set_cons_zero, List.set_cons_succ]
        refine wpAnyH_ready (rs := [14]) (by kernel_rfl) (by simp) ?_
        refine AllReadyH.cons (o := { dst := some 36, op := Op.call { callee := Callee.value (Operand.func 64), args := #[Operand.tmp 27, Operand.tmp 35], argTypes := #[25, 3] }, type := 81, pos := "redo.go:70", after := #[{ on := 5, ground := Ground.data }, { on := 13, ground := Ground.data }, { on := 13, ground := Ground.chain }], guard := none }) rfl (fun K hK => ?_) AllReadyH.nil
        rw [if_pos (by rfl)]
        go_simp
        go_at_call 64
        refine (HRD.out _ (bdrewN HW.out 1)).mono ?_
        rintro e wb ⟨A5, cap5, rfl, q5, b5⟩
        have m4 := (b5.cell (p := ⟨L, 4, none⟩) hLl).trans l4
        have m2 := (b5.cell (p := ⟨L, 2, none⟩) hLl).trans l2
        refine hK.out _ _ m2 (fun hHeld => ?_)
        clear hK K
        try simp only [Act.put, List.setIfInBounds_toArray, List.set_cons_zero, List.set_cons_succ]
        refine wpAnyH_ready (rs := [15]) (by kernel_rfl) (by simp) ?_
        refine AllReadyH.cons (o := { dst := some 37, op := Op.call { callee := Callee.builtin Builtin.append, args := #[Operand.tmp 26, Operand.tmp 36], argTypes := #[81, 81] }, type := 81, pos := "redo.go:70", after := #[{ on := 4, ground := Ground.data }, { on := 14, ground := Ground.data }, { on := 14, ground := Ground.chain }], guard := none }) rfl (fun K hK => ?_) AllReadyH.nil
        refine step_append_all rfl _ _ _ rfl w.heap.size 5 i0 _ 1 1 Tryz.underlying81 hi0 hz0 hz1 hz2 rfl hpos1 A cap ys.length (u8s ys) rfl (HOWN.out wb b5) A5 64 cap5 (u8s (sec (noughts n) q)) rfl HU64.out (HNO.out wb A5 cap5 q5) (fun ad had => ((q5.src).1 ad had).2) (u8s_one _) H63.out HBY.out (Nat.le_trans HWS.out b5.size) ?_
        intro A7 cap7 w7 hown7 hgrow7 hat7
        have hL7 := ((HLG.out.drew).below b5 hLl).grown hgrow7 HLR.out
        have n4 : w7.cell? ⟨L, 4, none⟩ = some (.slice A ys.length cap) := hL7.cell 4
        have nf4 := hL7.frozen 4
        have n2 : w7.cell? ⟨L, 2, none⟩ = some (.int .i64 0) := hL7.cell 2
        have nl := hL7.lt
        refine hK.out _ _ n2 (fun hHeld => ?_)
        clear hK K
        try simp only [Act.put, List.setIfInBounds_toArray, List.set_cons_zero, List.set_cons_succ]
        refine wpAnyH_take (i := 16) (oi := { dst := some 38, op := Op.nilCheck (Operand.tmp 22), type := 0, pos := "redo.go:70", after := #[{ on := 0, ground := Ground.data }, { on := 0, ground := Ground.phase }, { on := 1, ground := Ground.phase }, { on := 2, ground := Ground.phase }, { on := 3, ground := Ground.phase }, { on := 4, ground := Ground.phase }, { on := 5, ground := Ground.phase }, { on := 6, ground := Ground.phase }, { on := 7, ground := Ground.phase }, { on := 8, ground := Ground.phase }, { on := 9, ground := Ground.phase }, { on := 10, ground := Ground.phase }, { on := 11, ground := Ground.phase }, { on := 12, ground := Ground.phase }, { on := 13, ground := Ground.phase }, { on := 14, ground := Ground.phase }, { on := 15, ground := Ground.phase }], guard := none }) (v := ?_) rfl (by kernel_rfl) (by kernel_rfl) (by kernel_rfl) (fun _ _ _ h => h) (Or.inl ⟨by rfl, ?_⟩) hHeld ?_
        rotate_left
        · (intro W1 hSw; (try dsimp only at hSw); go_simp; first | done | (with_reducible rfl))
        try simp only [Act.put, List.setIfInBounds_toArray, List.set_cons_zero, List.set_cons_succ]
        refine wpAnyH_take (i := 17) (oi := { dst := some 39, op := Op.fieldAddr 152 (Operand.tmp 38) 2, type := 0, pos := "redo.go:70", after := #[{ on := 16, ground := Ground.data }, { on := 0, ground := Ground.phase }, { on := 1, ground := Ground.phase }, { on := 2, ground := Ground.phase }, { on := 3, ground := Ground.phase }, { on := 4, ground := Ground.phase }, { on := 5, ground := Ground.phase }, { on := 6, ground := Ground.phase }, { on := 7, ground := Ground.phase }, { on := 8, ground := Ground.phase }, { on := 9, ground := Ground.phase }, { on := 10, ground := Ground.phase }, { on := 11, ground := Ground.phase }, { on := 12, ground := Ground.phase }, { on := 13, ground := Ground.phase }, { on := 14, ground := Ground.phase }, { on := 15, ground := Ground.phase }], guard := none }) (v := ?_) rfl (by kernel_rfl) (by kernel_rfl) (by kernel_rfl) (fun _ _ _ h => h) (Or.inl ⟨by rfl, ?_⟩) hHeld ?_
        rotate_left
        · (intro W1 hSw; (try dsimp only at hSw); go_simp; first | done | (with_reducible rfl))
        try simp only [Act.put, List.setIfInBounds_toArray, List.set_cons_zero, List.set_cons_succ]
        refine wpAnyH_ready (rs := [18]) (by kernel_rfl) (by simp) ?_
        refine AllReadyH.cons (o := { dst := none, op := Op.store 81 (Operand.tmp 39) (Operand.tmp 37), type := 0, pos := "redo.go:70", after := #[{ on := 17, ground := Ground.data }, { on := 15, ground := Ground.data }, { on := 15, ground := Ground.chain }, { on := 0, ground := Ground.phase }, { on := 1, ground := Ground.phase }, { on := 2, ground := Ground.phase }, { on := 3, ground := Ground.phase }, { on := 4, ground := Ground.phase }, { on := 5, ground := Ground.phase }, { on := 6, ground := Ground.phase }, { on := 7, ground := Ground.phase }, { on := 8, ground := Ground.phase }, { on := 9, ground := Ground.phase }, { on := 10, ground := Ground.phase }, { on := 11, ground := Ground.phase }, { on := 12, ground := Ground.phase }, { on := 13, ground := Ground.phase }, { on := 14, ground := Ground.phase }, { on := 15, ground := Ground.phase }], guard := none }) rfl (fun K hK => ?_) AllReadyH.nil
        rw [if_pos (by rfl)]
        go_simp
        refine hK.out _ _ (by rw [World.cell?_setCell_other _ _ _ _ (by simp)]; exact n2) (fun hHeld => ?_)
        clear hK K
        try simp only [Act.put, List.setIfInBounds_toArray, List.set_cons_zero, List.set_cons_succ]
        refine wpAnyH_done (by kernel_rfl) ?_ _
        go_wp2_with fail
        go_roundw
        case rel => exact FIN.out _ _ _ _ _ _ b5 q5 hown7 hgrow7 hat7 hL7
        case measure => simp [intOf]; omega
      · rw [if_pos (by rfl)]
        go_simp
        go_at_call 65
        refine (HSC.out _ (bdrewN HW.out 1)).mono ?_
        rintro e wa ⟨rfl, rfl⟩
        refine hK.out _ _ hHeld (fun hHeld => ?_)
        clear hK K
        try simp only [Act.put, List.setIfInBounds_toArray, List.set_cons_zero, List.set_cons_succ]
        refine wpAnyH_ready (rs := [4, 14]) (by kernel_rfl) (by simp) ?_
        refine AllReadyH.cons (o := { dst := some 26, op := Op.load 81 (Operand.tmp 25), type := 81, pos := "redo.go:70", after := #[{ on := 3, ground := Ground.data }], guard := none }) rfl (fun K hK => ?_) (AllReadyH.cons (o := { dst := some 36, op := Op.call { callee := Callee.value (Operand.func 64), args := #[Operand.tmp 27, Operand.tmp 35], argTypes := #[25, 3] }, type := 81, pos := "redo.go:70", after := #[{ on := 5, ground := Ground.data }, { on := 13, ground := Ground.data }, { on := 13, ground := Ground.chain }], guard := none }) rfl (fun K hK => ?_) AllReadyH.nil)
        · rw [if_pos (by rfl)]
          go_simp
          refine hK.out _ _ hHeld (fun hHeld => ?_)
          clear hK K
          try simp only [Act.put, List.setIfInBounds_toArray, List.set_cons_zero, List.set_cons_succ]
          refine wpAnyH_ready (rs := [14]) (by kernel_rfl) (by simp) ?_
          refine AllReadyH.cons (o := { dst := some 36, op := Op.call { callee := Callee.value (Operand.func 64), args := #[Operand.tmp 27, Operand.tmp 35], argTypes := #[25, 3] }, type := 81, pos := "redo.go:70", after := #[{ on := 5, ground := Ground.data }, { on := 13, ground := Ground.data }, { on := 13, ground := Ground.chain }], guard := none }) rfl (fun K hK => ?_) AllReadyH.nil
          rw [if_pos (by rfl)]
          go_simp
          go_at_call 64
          refine (HRD.out _ (bdrewN HW.out 1)).mono ?_
          rintro e wb ⟨A5, cap5, rfl, q5, b5⟩
          have m4 := (b5.cell (p := ⟨L, 4, none⟩) hLl).trans l4
          have m2 := (b5.cell (p := ⟨L, 2, none⟩) hLl).trans l2
          refine hK.out _ _ m2 (fun hHeld => ?_)
          clear hK K
          try simp only [Act.put, List.setIfInBounds_toArray, List.set_cons_zero, List.set_cons_succ]
          refine wpAnyH_ready (rs := [15]) (by kernel_rfl) (by simp) ?_
          refine AllReadyH.cons (o := { dst := some 37, op := Op.call { callee := Callee.builtin Builtin.append, args := #[Operand.tmp 26, Operand.tmp 36], argTypes := #[81, 81] }, type := 81, pos := "redo.go:70", after := #[{ on := 4, ground := Ground.data }, { on := 14, ground := Ground.data }, { on := 14, ground := Ground.chain }], guard := none }) rfl (fun K hK => ?_) AllReadyH.nil
          refine step_append_all rfl _ _ _ rfl w.heap.size 5 i0 _ 1 1 Tryz.underlying81 hi0 hz0 hz1 hz2 rfl hpos1 A cap ys.length (u8s ys) rfl (HOWN.out wb b5) A5 64 cap5 (u8s (sec (noughts n) q)) rfl HU64.out (HNO.out wb A5 cap5 q5) (fun ad had => ((q5.src).1 ad had).2) (u8s_one _) H63.out HBY.out (Nat.le_trans HWS.out b5.size) ?_
          intro A7 cap7 w7 hown7 hgrow7 hat7
          have hL7 := ((HLG.out.drew).below b5 hLl).grown hgrow7 HLR.out
          have n4 : w7.cell? ⟨L, 4, none⟩ = some (.slice A ys.length cap) := hL7.cell 4
          have nf4 := hL7.frozen 4
          have n2 : w7.cell? ⟨L, 2, none⟩ = some (.int .i64 0) := hL7.cell 2
          have nl := hL7.lt
          refine hK.out _ _ n2 (fun hHeld => ?_)
          clear hK K
          try simp only [Act.put, List.setIfInBounds_toArray, List.set_cons_zero, List.set_cons_succ]
          refine wpAnyH_take (i := 16) (oi := { dst := some 38, op := Op.nilCheck (Operand.tmp 22), type := 0, pos := "redo.go:70", after := #[{ on := 0, ground := Ground.data }, { on := 0, ground := Ground.phase }, { on := 1, ground := Ground.phase }, { on := 2, ground := Ground.phase }, { on := 3, ground := Ground.phase }, { on := 4, ground := Ground.phase }, { on := 5, ground := Ground.phase }, { on := 6, ground := Ground.phase }, { on := 7, ground := Ground.phase }, { on := 8, ground := Ground.phase }, { on := 9, ground := Ground.phase }, { on := 10, ground := Ground.phase }, { on := 11, ground := Ground.phase }, { on := 12, ground := Ground.phase }, { on := 13, ground := Ground.phase }, { on := 14, ground := Ground.phase }, { on := 15, ground := Ground.phase }], guard := none }) (v := ?_) rfl (by kernel_rfl) (by kernel_rfl) (by kernel_rfl) (fun _ _ _ h => h) (Or.inl ⟨by rfl, ?_⟩) hHeld ?_
          rotate_left
          · (intro W1 hSw; (try dsimp only at hSw); go_simp; first | done | (with_reducible rfl))
          try simp only [Act.put, List.setIfInBounds_toArray, List.set_cons_zero, List.set_cons_succ]
          refine wpAnyH_take (i := 17) (oi := { dst := some 39, op := Op.fieldAddr 152 (Operand.tmp 38) 2, type := 0, pos := "redo.go:70", after := #[{ on := 16, ground := Ground.data }, { on := 0, ground := Ground.phase }, { on := 1, ground := Ground.phase }, { on := 2, ground := Ground.phase }, { on := 3, ground := Ground.phase }, { on := 4, ground := Ground.phase }, { on := 5, ground := Ground.phase }, { on := 6, ground := Ground.phase }, { on := 7, ground := Ground.phase }, { on := 8, ground := Ground.phase }, { on := 9, ground := Ground.phase }, { on := 10, ground := Ground.phase }, { on := 11, ground := Ground.phase }, { on := 12, ground := Ground.phase }, { on := 13, ground := Ground.phase }, { on := 14, ground := Ground.phase }, { on := 15, ground := Ground.phase }], guard := none }) (v := ?_) rfl (by kernel_rfl) (by kernel_rfl) (by kernel_rfl) (fun _ _ _ h => h) (Or.inl ⟨by rfl, ?_⟩) hHeld ?_
          rotate_left
          · (intro W1 hSw; (try dsimp only at hSw); go_simp; first | done | (with_reducible rfl))
          try simp only [Act.put, List.setIfInBounds_toArray, List.set_cons_zero, List.set_cons_succ]
          refine wpAnyH_ready (rs := [18]) (by kernel_rfl) (by simp) ?_
          refine AllReadyH.cons (o := { dst := none, op := Op.store 81 (Operand.tmp 39) (Operand.tmp 37), type := 0, pos := "redo.go:70", after := #[{ on := 17, ground := Ground.data }, { on := 15, ground := Ground.data }, { on := 15, ground := Ground.chain }, { on := 0, ground := Ground.phase }, { on := 1, ground := Ground.phase }, { on := 2, ground := Ground.phase }, { on := 3, ground := Ground.phase }, { on := 4, ground := Ground.phase }, { on := 5, ground := Ground.phase }, { on := 6, ground := Ground.phase }, { on := 7, ground := Ground.phase }, { on := 8, ground := Ground.phase }, { on := 9, ground := Ground.phase }, { on := 10, ground := Ground.phase }, { on := 11, ground := Ground.phase }, { on := 12, ground := Ground.phase }, { on := 13, ground := Ground.phase }, { on := 14, ground := Ground.phase }, { on := 15, ground := Ground.phase }], guard := none }) rfl (fun K hK => ?_) AllReadyH.nil
          rw [if_pos (by rfl)]
          go_simp
          refine hK.out _ _ (by rw [World.cell?_setCell_other _ _ _ _ (by simp)]; exact n2) (fun hHeld => ?_)
          clear hK K
          try simp only [Act.put, List.setIfInBounds_toArray, List.set_cons_zero, List.set_cons_succ]
          refine wpAnyH_done (by kernel_rfl) ?_ _
          go_wp2_with fail
          go_roundw
          case rel => exact FIN.out _ _ _ _ _ _ b5 q5 hown7 hgrow7 hat7 hL7
          case measure => simp [intOf]; omega
        · rw [if_pos (by rfl)]
          go_simp
          go_at_call 64
          refine (HRD.out _ (bdrewN HW.out 1)).mono ?_
          rintro e wb ⟨A5, cap5, rfl, q5, b5⟩
          have m4 := (b5.cell (p := ⟨L, 4, none⟩) hLl).trans l4
          have m2 := (b5.cell (p := ⟨L, 2, none⟩) hLl).trans l2
          refine hK.out _ _ m2 (fun hHeld => ?_)
          clear hK K
          try simp only [Act.put, List.setIfInBounds_toArray, List.set_cons_zero, List.set_cons_succ]
          refine wpAnyH_ready (rs := [4]) (by kernel_rfl) (by simp) ?_
          refine AllReadyH.cons (o := { dst := some 26, op := Op.load 81 (Operand.tmp 25), type := 81, pos := "redo.go:70", after := #[{ on := 3, ground := Ground.data }], guard := none }) rfl (fun K hK => ?_) AllReadyH.nil
          rw [if_pos (by rfl)]
          go_simp
          refine hK.out _ _ hHeld (fun hHeld => ?_)
          clear hK K
          try simp only [Act.put, List.setIfInBounds_toArray, List.set_cons_zero, List.set_cons_succ]
          refine wpAnyH_ready (rs := [15]) (by kernel_rfl) (by simp) ?_
          refine AllReadyH.cons (o := { dst := some 37, op := Op.call { callee := Callee.builtin Builtin.append, args := #[Operand.tmp 26, Operand.tmp 36], argTypes := #[81, 81] }, type := 81, pos := "redo.go:70", after := #[{ on := 4, ground := Ground.data }, { on := 14, ground := Ground.data }, { on := 14, ground := Ground.chain }], guard := none }) rfl (fun K hK => ?_) AllReadyH.nil
          refine step_append_all rfl _ _ _ rfl w.heap.size 5 i0 _ 1 1 Tryz.underlying81 hi0 hz0 hz1 hz2 rfl hpos1 A cap ys.length (u8s ys) rfl (HOWN.out wb b5) A5 64 cap5 (u8s (sec (noughts n) q)) rfl HU64.out (HNO.out wb A5 cap5 q5) (fun ad had => ((q5.src).1 ad had).2) (u8s_one _) H63.out HBY.out (Nat.le_trans HWS.out b5.size) ?_
          intro A7 cap7 w7 hown7 hgrow7 hat7
          have hL7 := ((HLG.out.drew).below b5 hLl).grown hgrow7 HLR.out
          have n4 : w7.cell? ⟨L, 4, none⟩ = some (.slice A ys.length cap) := hL7.cell 4
          have nf4 := hL7.frozen 4
          have n2 : w7.cell? ⟨L, 2, none⟩ = some (.int .i64 0) := hL7.cell 2
          have nl := hL7.lt
          refine hK.out _ _ n2 (fun hHeld => ?_)
          clear hK K
          try simp only [Act.put, List.setIfInBounds_toArray, List.set_cons_zero, List.set_cons_succ]
          refine wpAnyH_take (i := 16) (oi := { dst := some 38, op := Op.nilCheck (Operand.tmp 22), type := 0, pos := "redo.go:70", after := #[{ on := 0, ground := Ground.data }, { on := 0, ground := Ground.phase }, { on := 1, ground := Ground.phase }, { on := 2, ground := Ground.phase }, { on := 3, ground := Ground.phase }, { on := 4, ground := Ground.phase }, { on := 5, ground := Ground.phase }, { on := 6, ground := Ground.phase }, { on := 7, ground := Ground.phase }, { on := 8, ground := Ground.phase }, { on := 9, ground := Ground.phase }, { on := 10, ground := Ground.phase }, { on := 11, ground := Ground.phase }, { on := 12, ground := Ground.phase }, { on := 13, ground := Ground.phase }, { on := 14, ground := Ground.phase }, { on := 15, ground := Ground.phase }], guard := none }) (v := ?_) rfl (by kernel_rfl) (by kernel_rfl) (by kernel_rfl) (fun _ _ _ h => h) (Or.inl ⟨by rfl, ?_⟩) hHeld ?_
          rotate_left
          · (intro W1 hSw; (try dsimp only at hSw); go_simp; first | done | (with_reducible rfl))
          try simp only [Act.put, List.setIfInBounds_toArray, List.set_cons_zero, List.set_cons_succ]
          refine wpAnyH_take (i := 17) (oi := { dst := some 39, op := Op.fieldAddr 152 (Operand.tmp 38) 2, type := 0, pos := "redo.go:70", after := #[{ on := 16, ground := Ground.data }, { on := 0, ground := Ground.phase }, { on := 1, ground := Ground.phase }, { on := 2, ground := Ground.phase }, { on := 3, ground := Ground.phase }, { on := 4, ground := Ground.phase }, { on := 5, ground := Ground.phase }, { on := 6, ground := Ground.phase }, { on := 7, ground := Ground.phase }, { on := 8, ground := Ground.phase }, { on := 9, ground := Ground.phase }, { on := 10, ground := Ground.phase }, { on := 11, ground := Ground.phase }, { on := 12, ground := Ground.phase }, { on := 13, ground := Ground.phase }, { on := 14, ground := Ground.phase }, { on := 15, ground := Ground.phase }], guard := none }) (v := ?_) rfl (by kernel_rfl) (by kernel_rfl) (by kernel_rfl) (fun _ _ _ h => h) (Or.inl ⟨by rfl, ?_⟩) hHeld ?_
          rotate_left
          · (intro W1 hSw; (try dsimp only at hSw); go_simp; first | done | (with_reducible rfl))
          try simp only [Act.put, List.setIfInBounds_toArray, List.set_cons_zero, List.set_cons_succ]
          refine wpAnyH_ready (rs := [18]) (by kernel_rfl) (by simp) ?_
          refine AllReadyH.cons (o := { dst := none, op := Op.store 81 (Operand.tmp 39) (Operand.tmp 37), type := 0, pos := "redo.go:70", after := #[{ on := 17, ground := Ground.data }, { on := 15, ground := Ground.data }, { on := 15, ground := Ground.chain }, { on := 0, ground := Ground.phase }, { on := 1, ground := Ground.phase }, { on := 2, ground := Ground.phase }, { on := 3, ground := Ground.phase }, { on := 4, ground := Ground.phase }, { on := 5, ground := Ground.phase }, { on := 6, ground := Ground.phase }, { on := 7, ground := Ground.phase }, { on := 8, ground := Ground.phase }, { on := 9, ground := Ground.phase }, { on := 10, ground := Ground.phase }, { on := 11, ground := Ground.phase }, { on := 12, ground := Ground.phase }, { on := 13, ground := Ground.phase }, { on := 14, ground := Ground.phase }, { on := 15, ground := Ground.phase }], guard := none }) rfl (fun K hK => ?_) AllReadyH.nil
          rw [if_pos (by rfl)]
          go_simp
          refine hK.out _ _ (by rw [World.cell?_setCell_other _ _ _ _ (by simp)]; exact n2) (fun hHeld => ?_)
          clear hK K
          try simp only [Act.put, List.setIfInBounds_toArray, List.set_cons_zero, List.set_cons_succ]
          refine wpAnyH_done (by kernel_rfl) ?_ _
          go_wp2_with fail
          go_roundw
          case rel => exact FIN.out _ _ _ _ _ _ b5 q5 hown7 hgrow7 hat7 hL7
          case measure => simp [intOf]; omega
      -- END REGION 7
    · obtain rfl : j = b := by omega
      obtain ⟨g, rfl, hg, hgl, hgc, hgm⟩ := brow_some HR.out (by have := HY.out; have := HBB.out; omega)
      have l4 : wr.cell? ⟨L, 4, none⟩ = some (.slice (some ⟨g, 0, none⟩) ys.length cap) := HLG.out.cell 4
      have l3 : wr.cell? ⟨L, 3, none⟩ = some (.int .i64 0) := HLG.out.cell 3
      have lf4 := HLG.out.frozen 4
      have hLl := HLG.out.lt
      have hcI : (0 : Int) ≤ (cap : Int) := by omega
      have HLG' := hid (HLG.out.set_ 4 (.slice (some ⟨g, 0, none⟩) 0 cap))
      have HNE : Hid (g ≠ L) := by
        show g ≠ L
        intro e
        subst e
        exact absurd rfl (own_ne HR.out.own HLG.out (by decide))
      have HR' : Hid (BRow (wr.setCell ⟨L, 4, none⟩ (.slice (some ⟨g, 0, none⟩) 0 cap)) w.heap.size (some ⟨g, 0, none⟩) cap []) := by
        refine ⟨own_far (brow_cut HR.out).own (by simpa [Value.ownBlock] using HNE.out) _, fun x hx => by simp at hx⟩
      have HW' : Hid (Below w.heap.size w (wr.setCell ⟨L, 4, none⟩ (.slice (some ⟨g, 0, none⟩) 0 cap))) := HW.out.setCell HLB.out _
      go_wp2_with fail
      go_region
      generalize wr.setCell ⟨L, 4, none⟩ (.slice (some ⟨g, 0, none⟩) 0 cap) = w4 at *
      have m4 : w4.drew.cell? ⟨L, 4, none⟩ = some (.slice (some ⟨g, 0, none⟩) 0 cap) := HLG'.out.cell 4
      have HO := hid (cur_open w4.drew (some ⟨g, 0, none⟩) cap [] ⟨fun ad had => by
        cases had
        exact ⟨by
          have := (HR'.out.own.lt g rfl).2
          exact this, fun j u hu => by simp [u8s] at hu⟩, fun e => (by cases e), fun x hx => by simp at hx⟩ (by simp))
      clear l4 l3 lf4 hLl hcI hgm hgc hg hgl
      go_wp2_with fail
      refine HO.out.mono ?_
      rintro e w5 ⟨Cb, A2, cap2, rfl, hCb, c5, q5, b5⟩
      have L5 := hid (HLG'.out.drew.below b5 HLG'.out.lt)
      have R5 : Hid (BRow w5 w.heap.size (some ⟨g, 0, none⟩) cap []) := ⟨own_tfr (ts := []) (show w4.drew.ownsRow _ _ _ _ _ _ from HR'.out.own) (.of_below b5) (by simp), fun x hx => by simp at hx⟩
      have B5 : Hid (Below w.heap.size w w5) := (bdrewN HW'.out 1).trans (b5.mono HW'.out.size)
      have C5 := hid c5
      clear HO q5 b5 c5 m4 hCb
      go_wp2_with fail
      go_loopw [8] (fun v wq => v = .slice none 0 0 ∧ w5 = wq) (fun _ _ => 1)
      case atStart => exact ⟨rfl, rfl⟩
      case round =>
        obtain ⟨rfl, rfl⟩ := hrel
        go_wp2_with fail
        refine (cur_good w5 Cb _ _ C5.out).mono ?_
        rintro e w6 ⟨rfl, rfl⟩
        go_wp2_with fail
        refine (cur_whole w5 Cb _ 0 _ C5.out true rfl).mono ?_
        rintro e w6 ⟨rfl, rfl⟩
        go_wp2_with fail
        refine (cur_whole w5 Cb _ 0 _ C5.out true rfl).mono ?_
        rintro e w6 ⟨rfl, rfl⟩
        have l5 := L5.out.cell 5
        have lf5 := L5.out.frozen 5
        have hl5 := L5.out.lt
        simp only [logCells] at l5
        go_wp2_with fail
        refine bodyPost_ret (v := .tuple #[.pointer (some ⟨L, 0, none⟩), .slice none 0 0, .int .i64 0]) (by simp [results, Tryz.results29, go_sem]) rfl ?_
        refine ⟨L, some ⟨g, 0, none⟩, cap, rfl, HLB.out, ?_, ?_, B5.out.setCell HLB.out _⟩
        · have := L5.out.set_ 5 (.int .i64 0)
          exact this
        · exact ⟨own_far R5.out.own (by simpa [Value.ownBlock] using HNE.out) _, fun x hx => by simp at hx⟩
end Go.Proofs.YtdfkdgnhpdgphaaGreatDoor
