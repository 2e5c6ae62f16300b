/-
  The reference's drum: Read; the log's sectors, and a head of noughts.
-/
import Derived.Lib.ConvBytes
import Derived.Test.YtdfkdgnhpdgphaaGreatDoorSkw36
import Derived.Test.YtdfkdgnhpdgphaaGreatDoorSkw37
namespace Go.Proofs.YtdfkdgnhpdgphaaGreatDoor
open Go.RowKit Go.Proofs.Lig

/-- Noughts lie in a block from a place on. -/
def Zs (w : World) (g o n : Nat) : Prop := g < w.heap.size ∧ ∀ j, j < n → w.cell? ⟨g, o + j, none⟩ = some (.int .u8 0)
set_option maxRecDepth 100000 in
theorem Zs.below {w w' : World} {g o n : Nat} (h : Zs w g o n) (hb : Below w.heap.size w w') : Zs w' g o n := ⟨Nat.lt_of_lt_of_le h.1 hb.size, fun j hj => (World.cell?_of_block (hb.block g h.1)).trans (h.2 j hj)⟩
theorem Zs.fr {w w' : World} {g o n : Nat} {S : List Nat} (h : Zs w g o n) (hf : Fr S w w') (hg : g ∉ S) : Zs w' g o n := ⟨Nat.lt_of_lt_of_le h.1 hf.size, fun j hj => (World.cell?_of_block (hf.block g h.1 hg)).trans (h.2 j hj)⟩
theorem Zs.tail {w : World} {g o n : Nat} (h : Zs w g o (n + 1)) : Zs w g (o + 1) n := ⟨h.1, fun j hj => by
  have := h.2 (j + 1) (by omega)
  rwa [show o + 1 + j = o + (j + 1) by omega]⟩
set_option maxRecDepth 100000 in
theorem bytes_below (w : World) (e : TypeId) (s : ByteArray) : Below w.heap.size w (Lib.bytesWorld w e s) :=
  ⟨rfl, rfl, rfl, by rw [Lib.bytesWorld_size]; omega, fun k hk => Lib.bytesWorld_at_old w e s k hk⟩
structure RDrum (w : World) (D n : Nat) : Prop where
  ex : ∃ v b cap N, Blk w D 135 (rdCells v (some ⟨b, 0, none⟩) n cap) ∧ w.ownsRow N 9 1 (.slice (some ⟨b, 0, none⟩) n cap) n (List.replicate n (.string nul64))
set_option maxRecDepth 100000 in
theorem RDrum.below {w w' : World} {D n : Nat} (h : RDrum w D n) (hb : Below w.heap.size w w') : RDrum w' D n := by
  obtain ⟨v, b, cap, N, h1, h2⟩ := h.ex
  exact ⟨v, b, cap, N, h1.below hb h1.lt, own_tfr (ts := []) h2 (.of_below hb) (by simp)⟩
set_option maxRecDepth 100000 in
theorem RDrum.tfr {w w' : World} {D n : Nat} {ts : List TypeId} (h : RDrum w D n) (hf : TFr ts w w') (h1 : 135 ∉ ts) (h2 : 9 ∉ ts) : RDrum w' D n := by
  obtain ⟨v, b, cap, N, k1, k2⟩ := h.ex
  exact ⟨v, b, cap, N, k1.tfr hf h1, own_tfr k2 hf h2⟩
set_option maxRecDepth 100000 in
theorem ref_read (w : World) (D n : Nat) (h : RDrum w D n) (i : Nat) (hi : i < n) :
    Calls Tryz.prog 93 #[.pointer (some ⟨D, 0, none⟩), .int .i64 (i : Int)] w fun e w' => ∃ g c, e = .returned (.slice (some ⟨g, 0, none⟩) 64 (c + 64)) ∧ w.heap.size ≤ g ∧ Zs w' g 0 64 ∧ c + 64 ≤ maxLen ∧ Below w.heap.size w w' := by
  obtain ⟨v, b, cap, N, h1, h2⟩ := h.ex
  have c1 : w.cell? ⟨D, 1, none⟩ = some (.slice (some ⟨b, 0, none⟩) n cap) := h1.cell 1
  have ci : w.cell? ⟨b, i, none⟩ = some (.string nul64) := by
    have := (own_src h2).2 _ rfl i (.string nul64) (by rw [List.getElem?_replicate, if_pos hi])
    rwa [Addr.add_mid, Nat.zero_add] at this
  have hcv := Lib.run_convert_string_bytes (P := Tryz.prog) w 9 81 5 nul64 Tryz.underlying9 Tryz.underlying81 Tryz.underlying5
  have hi1 : (i : Int) < (n : Int) := by omega
  have H64 : nul64.size = 64 := by simp [nul64, ByteArray.size]
  have HG := grownCap_ge w nul64.size 0 5
  have HM := grownCap_le_maxLen w nul64.size 0 5 (by rw [H64]; decide)
  have HZ : Zs (Lib.bytesWorld w 5 nul64) w.heap.size 0 64 := ⟨by rw [Lib.bytesWorld_size]; omega, fun j hj => by
    rw [Nat.zero_add, Lib.bytesWorld_cell _ _ _ _ (by omega)]
    have e : nul64.data.toList.getD j 0 = 0 := by
      show (List.replicate 64 (0 : UInt8)).getD j 0 = 0
      rw [List.getD_eq_getElem?_getD, List.getElem?_replicate, if_pos hj]
      rfl
    rw [e]
    rfl⟩
  have HB := bytes_below w 5 nul64
  obtain ⟨c, hc⟩ : ∃ c, grownCap w nul64.size 0 5 = c + 64 := ⟨grownCap w nul64.size 0 5 - 64, by omega⟩
  rw [hc] at hcv HM
  rw [H64] at hcv
  generalize Lib.bytesWorld w 5 nul64 = wb at *
  have HZ := hid HZ
  have HB := hid HB
  have HM := hid HM
  clear hc HG H64 h h1 h2
  go_enter Tryz.func93, Tryz.ntmps93
  go_wp2_with fail
  go_ret
  exact ⟨w.heap.size, c, rfl, Nat.le_refl _, HZ.out, HM.out, HB.out⟩
set_option maxRecDepth 100000 in
theorem ref_sectors (w : World) (D n : Nat) (h : RDrum w D n) (hn : 4 ≤ n) (hn2 : n ≤ 200) :
    Calls Tryz.prog 92 #[.pointer (some ⟨D, 0, none⟩)] w fun e w' => e = .returned (.int .i64 (((n - 2) / 2 : Nat) : Int)) ∧ w = w' := by
  obtain ⟨v, b, cap, N, h1, h2⟩ := h.ex
  have c1 : w.cell? ⟨D, 1, none⟩ = some (.slice (some ⟨b, 0, none⟩) n cap) := h1.cell 1
  clear h h1 h2
  go_enter Tryz.func92, Tryz.ntmps92
  go_wp2_with fail
  go_ret
  refine ⟨?_, rfl⟩
  first | rfl | (simp; omega)
set_option maxRecDepth 100000 in
theorem size_rhead : (Tryz.prog.info? 176).map (·.size) = some 3 := by kernel_rfl
theorem ref_head (w : World) (D n : Nat) (h : RDrum w D n) (i : Nat) (hi : i < n) :
    Calls Tryz.prog 91 #[.pointer (some ⟨D, 0, none⟩), .int .i64 (i : Int)] w fun e w' => e = .returned (.agg #[.int .i64 0, .int .i64 0, .int .i64 0]) ∧ Below w.heap.size w w' := by
  have B1 := hid (below_alloc w (.cells #[.int .i64 0, .int .i64 0, .int .i64 0] 176))
  have K1 := hid (Blk.new w 176 [.int .i64 0, .int .i64 0, .int .i64 0])
  have HR := hid (ref_read (w.alloc (.cells #[.int .i64 0, .int .i64 0, .int .i64 0] 176)) D n (h.below B1.out) i hi)
  clear h
  go_enter Tryz.func91, Tryz.ntmps91
  go_wp2_with fail
  refine HR.out.mono ?_
  rintro e w2 ⟨g, c, rfl, hg, Z2, hm, b2⟩
  have B2 := hid (bstep0 B1.out b2)
  have K2 := hid (K1.out.below b2 K1.out.lt)
  have b3 := below_alloc w2 (.cells #[.slice (some ⟨g, 0, none⟩) 64 (c + 64), .bool false] 194)
  have k3 := Blk.new w2 194 [.slice (some ⟨g, 0, none⟩) 64 (c + 64), .bool false]
  have Z3 := Z2.below b3
  have HNE : Hid (g ≠ w2.heap.size) := Nat.ne_of_lt Z2.1
  have HI := hid (ref_cur_int _ w2.heap.size g 0 63 (c + 62) k3 (by omega) (by unfold maxLen at hm; omega) (Z3.2 0 (by omega)) Z3.1)
  have B3 := hid (bstep0 B2.out b3)
  have K3 := hid (K2.out.below b3 K2.out.lt)
  have HZ3 := hid Z3
  have HM := hid hm
  have b2s := hid b2.size
  clear Z2 Z3 hm b2 b3 hg
  go_wp2_with fail
  refine HI.out.mono ?_
  rintro e w4 ⟨rfl, K4, F4⟩
  have HF4 := hid F4
  have HK4 := hid K4
  have HZ4 := hid (HZ3.out.fr F4 (by simpa using HNE.out))
  clear K4 F4 HI k3
  go_wp2_with fail
  have b5 := below_alloc w4 (.cells #[.int .i64 0, .int .i64 0, .int .i64 0] 176)
  have K5 := hid (Blk.new w4 176 [.int .i64 0, .int .i64 0, .int .i64 0])
  have Z5 := HZ4.out.tail.below b5
  have C5 := HK4.out.below b5 HK4.out.lt
  have HI5 := hid (ref_cur_int _ w2.heap.size g 1 62 (c + 61) C5 (by omega) (by have := HM.out; unfold maxLen at this; omega) (Z5.2 0 (by omega)) Z5.1)
  have HZ5 := hid Z5
  have HNH : Hid (w4.heap.size ≠ w2.heap.size) := Ne.symm (Nat.ne_of_lt HK4.out.lt)
  have B4 := hid (B3.out.trans (HF4.out.below (Nat.le_trans B2.out.size (by simp)) (fun q hq => by
    obtain rfl : q = w2.heap.size := by simpa using hq
    exact B2.out.size)))
  have B5 := hid (bstep0 B4.out b5)
  have K35 := hid ((K3.out.fr HF4.out (by simpa using (Nat.ne_of_lt (Nat.lt_of_lt_of_le K1.out.lt b2s.out)))).below b5 ((K3.out.fr HF4.out (by simpa using (Nat.ne_of_lt (Nat.lt_of_lt_of_le K1.out.lt b2s.out)))).lt))
  clear b5 Z5 C5
  refine HI5.out.mono ?_
  rintro e w6 ⟨rfl, K6, F6⟩
  have HK6 := hid K6
  have HZ6 := hid ((HZ5.out.fr F6 (by simpa using HNE.out)).tail)
  have KH6 := hid (K5.out.fr F6 (by simpa using HNH.out))
  have KR6 := hid (K35.out.fr F6 (by simpa using (Nat.ne_of_lt (Nat.lt_of_lt_of_le K1.out.lt b2s.out))))
  have B6 := hid (B5.out.trans (F6.below (Nat.le_trans B4.out.size (by simp)) (fun q hq => by
    obtain rfl : q = w2.heap.size := by simpa using hq
    exact B2.out.size)))
  have h61 : w6.cell? ⟨w4.heap.size, 1, none⟩ = some (.int .i64 0) := KH6.out.cell 1
  have f61 := KH6.out.frozen 1
  have l6 := KH6.out.lt
  have HNG : Hid (g ≠ w4.heap.size) := Nat.ne_of_lt HZ4.out.1
  have F7 := (Fr.refl [w4.heap.size] w6).setCell (p := ⟨w4.heap.size, 1, none⟩) (by simp) (.int .i64 0)
  have C7 := K6.far (p := ⟨w4.heap.size, 1, none⟩) (by simpa using HNH.out.symm) (.int .i64 0)
  have Z7 := HZ6.out.fr F7 (by simpa using HNG.out)
  have HI7 := hid (ref_cur_int _ w2.heap.size g 2 61 (c + 60) C7 (by omega) (by have := HM.out; unfold maxLen at this; omega) (Z7.2 0 (by omega)) Z7.1)
  have KH7 := hid (KH6.out.set_ 1 (.int .i64 0))
  have HZ7 := hid Z7
  have HLR : Hid (w.heap.size ≠ w4.heap.size) := Nat.ne_of_lt (Nat.lt_of_lt_of_le K1.out.lt (Nat.le_trans b2s.out (Nat.le_trans (by simp) HF4.out.size)))
  have KR7 := hid (KR6.out.far (p := ⟨w4.heap.size, 1, none⟩) (by simpa using HLR.out) (.int .i64 0))
  have B7 := hid (B6.out.setCell (p := ⟨w4.heap.size, 1, none⟩) (by simpa using B4.out.size) (.int .i64 0))
  clear K6 F6 C7 Z7 F7 HI5
  go_wp2_with fail
  generalize World.setCell w6 ⟨w4.heap.size, 1, none⟩ (.int .i64 0) = w7 at *
  clear h61 f61 l6
  refine HI7.out.mono ?_
  rintro e w8 ⟨rfl, K8, F8⟩
  have HZ8 := hid ((HZ7.out.fr F8 (by simpa using HNE.out)).tail)
  have KH8 := hid (KH7.out.fr F8 (by simpa using HNH.out))
  have KR8 := hid (KR7.out.fr F8 (by simpa using (Nat.ne_of_lt (Nat.lt_of_lt_of_le K1.out.lt b2s.out))))
  have B8 := hid (B7.out.trans (F8.below (Nat.le_trans B7.out.size (Nat.le_refl _)) (fun q hq => by
    obtain rfl : q = w2.heap.size := by simpa using hq
    exact B2.out.size)))
  have h82 : w8.cell? ⟨w4.heap.size, 2, none⟩ = some (.int .i64 0) := KH8.out.cell 2
  have f82 := KH8.out.frozen 2
  have l8 := KH8.out.lt
  have F9 := (Fr.refl [w4.heap.size] w8).setCell (p := ⟨w4.heap.size, 2, none⟩) (by simp) (.int .i64 0)
  have C9 := K8.far (p := ⟨w4.heap.size, 2, none⟩) (by simpa using HNH.out.symm) (.int .i64 0)
  have HZ9 := hid (HZ8.out.fr F9 (by simpa using HNG.out))
  have KH9 := hid (KH8.out.set_ 2 (.int .i64 0))
  have KR9 := hid (KR8.out.far (p := ⟨w4.heap.size, 2, none⟩) (by simpa using HLR.out) (.int .i64 0))
  have B9 := hid (B8.out.setCell (p := ⟨w4.heap.size, 2, none⟩) (by simpa using B4.out.size) (.int .i64 0))
  have HC9 := hid C9
  clear K8 F8 C9 F9 HI7
  go_wp2_with fail
  generalize World.setCell w8 ⟨w4.heap.size, 2, none⟩ (.int .i64 0) = w9 at *
  clear h82 f82 l8
  have c0 : w9.cell? ⟨w2.heap.size, 0, none⟩ = some (.slice (some ⟨g, 3, none⟩) 61 (c + 61)) := HC9.out.cell 0
  go_loopw [7] (fun v wr => (∃ k : Nat, v = .int .i64 (k : Int) ∧ k ≤ 61) ∧ w9 = wr) (fun v _ => (61 - intOf v).toNat)
  case atStart => exact ⟨⟨0, rfl, by omega⟩, rfl⟩
  case round =>
    obtain ⟨⟨k, rfl, hk⟩, rfl⟩ := hrel
    by_cases hkn : k = 61
    · subst hkn
      have KR : Hid (Blk w9.drew w.heap.size 176 [.int .i64 0, .int .i64 0, .int .i64 0]) := KR9.out.drew
      have BZ := hid B9.out
      have HSS : Hid (w9.drew.cell? ⟨w2.heap.size, 1, none⟩ = some (.bool false) ∧ w9.drew.cell? ⟨w4.heap.size, 0, none⟩ = some (.int .i64 0)) := ⟨HC9.out.drew.cell 1, KH9.out.drew.cell 0⟩
      go_wp2_with fail
      -- REGION read
      refine wp_region_held_drew (S := fun W => W.cell? ⟨w2.heap.size, 1, none⟩ = some (.bool false) ∧ W.cell? ⟨w4.heap.size, 0, none⟩ = some (.int .i64 0)) (by kernel_rfl) HSS.out (fun hHeld => ?_)
      refine wpAnyH_take (i := 0) (oi := { dst := some 40, op := Op.move (Operand.tmp 5), type := 192, pos := "redo.go:36", after := #[], guard := none }) (v := ?_) rfl (by kernel_rfl) (by kernel_rfl) (by kernel_rfl) (fun _ _ _ h => h) (Or.inl ⟨by rfl, ?_⟩) hHeld ?_
      rotate_left
      · (intro W1 hSw; (try dsimp only at hSw); go_simp; first | done | (with_reducible rfl))
      try simp only [Act.put, List.setIfInBounds_toArray, List.set_cons_zero, List.set_cons_succ]
      refine wpAnyH_take (i := 1) (oi := { dst := some 41, op := Op.nilCheck (Operand.tmp 40), type := 0, pos := "redo.go:36", after := #[{ on := 0, ground := Ground.data }], guard := none }) (v := ?_) rfl (by kernel_rfl) (by kernel_rfl) (by kernel_rfl) (fun _ _ _ h => h) (Or.inl ⟨by rfl, ?_⟩) hHeld ?_
      rotate_left
      · (intro W1 hSw; (try dsimp only at hSw); go_simp; first | done | (with_reducible rfl))
      try simp only [Act.put, List.setIfInBounds_toArray, List.set_cons_zero, List.set_cons_succ]
      refine wpAnyH_take (i := 2) (oi := { dst := some 42, op := Op.fieldAddr 194 (Operand.tmp 41) 1, type := 0, pos := "redo.go:36", after := #[{ on := 1, ground := Ground.data }], guard := none }) (v := ?_) rfl (by kernel_rfl) (by kernel_rfl) (by kernel_rfl) (fun _ _ _ h => h) (Or.inl ⟨by rfl, ?_⟩) hHeld ?_
      rotate_left
      · (intro W1 hSw; (try dsimp only at hSw); go_simp; first | done | (with_reducible rfl))
      try simp only [Act.put, List.setIfInBounds_toArray, List.set_cons_zero, List.set_cons_succ]
      refine wpAnyH_take (i := 3) (oi := { dst := some 43, op := Op.load 4 (Operand.tmp 42), type := 4, pos := "redo.go:36", after := #[{ on := 2, ground := Ground.data }], guard := none }) (v := ?_) rfl (by kernel_rfl) (by kernel_rfl) (by kernel_rfl) (fun _ _ _ h => h) (Or.inl ⟨by rfl, ?_⟩) hHeld ?_
      rotate_left
      · (intro W1 hSw; (try dsimp only at hSw); go_simp; first | done | (with_reducible rfl))
      try simp only [Act.put, List.setIfInBounds_toArray, List.set_cons_zero, List.set_cons_succ]
      refine wpAnyH_take (i := 4) (oi := { dst := some 44, op := Op.move (Operand.tmp 43), type := 4, pos := "redo.go:36", after := #[{ on := 3, ground := Ground.data }], guard := none }) (v := ?_) rfl (by kernel_rfl) (by kernel_rfl) (by kernel_rfl) (fun _ _ _ h => h) (Or.inl ⟨by rfl, ?_⟩) hHeld ?_
      rotate_left
      · (intro W1 hSw; (try dsimp only at hSw); go_simp; first | done | (with_reducible rfl))
      try simp only [Act.put, List.setIfInBounds_toArray, List.set_cons_zero, List.set_cons_succ]
      refine wpAnyH_take (i := 5) (oi := { dst := some 45, op := Op.fieldAddr 176 (Operand.tmp 6) 0, type := 0, pos := "redo.go:36", after := #[{ on := 4, ground := Ground.guard }], guard := some (4, false) }) (v := ?_) rfl (by kernel_rfl) (by kernel_rfl) (by kernel_rfl) (fun _ _ _ h => h) (Or.inl ⟨by rfl, ?_⟩) hHeld ?_
      rotate_left
      · (intro W1 hSw; (try dsimp only at hSw); go_simp; first | done | (with_reducible rfl))
      try simp only [Act.put, List.setIfInBounds_toArray, List.set_cons_zero, List.set_cons_succ]
      refine wpAnyH_take (i := 6) (oi := { dst := some 46, op := Op.load 3 (Operand.tmp 45), type := 3, pos := "redo.go:36", after := #[{ on := 5, ground := Ground.data }, { on := 4, ground := Ground.guard }], guard := some (4, false) }) (v := ?_) rfl (by kernel_rfl) (by kernel_rfl) (by kernel_rfl) (fun _ _ _ h => h) (Or.inl ⟨by rfl, ?_⟩) hHeld ?_
      rotate_left
      · (intro W1 hSw; (try dsimp only at hSw); go_simp; first | done | (with_reducible rfl))
      try simp only [Act.put, List.setIfInBounds_toArray, List.set_cons_zero, List.set_cons_succ]
      refine wpAnyH_take (i := 7) (oi := { dst := some 47, op := Op.binOp BinOp.lss 3 (Operand.tmp 46) (Operand.const (Value.int IntKind.i64 1)) 3, type := 4, pos := "redo.go:36", after := #[{ on := 6, ground := Ground.data }, { on := 4, ground := Ground.guard }], guard := some (4, false) }) (v := ?_) rfl (by kernel_rfl) (by kernel_rfl) (by kernel_rfl) (fun _ _ _ h => h) (Or.inl ⟨by rfl, ?_⟩) hHeld ?_
      rotate_left
      · (intro W1 hSw; (try dsimp only at hSw); go_simp; first | done | (with_reducible rfl))
      try simp only [Act.put, List.setIfInBounds_toArray, List.set_cons_zero, List.set_cons_succ]
      refine wpAnyH_take (i := 8) (oi := { dst := some 48, op := Op.pick (Operand.tmp 44) (Operand.const (Value.bool true)) (Operand.tmp 47), type := 4, pos := "redo.go:36", after := #[{ on := 4, ground := Ground.data }, { on := 7, ground := Ground.data }], guard := none }) (v := ?_) rfl (by kernel_rfl) (by kernel_rfl) (by kernel_rfl) (fun _ _ _ h => h) (Or.inl ⟨by rfl, ?_⟩) hHeld ?_
      rotate_left
      · (intro W1 hSw; (try dsimp only at hSw); go_simp; first | done | (with_reducible rfl))
      try simp only [Act.put, List.setIfInBounds_toArray, List.set_cons_zero, List.set_cons_succ]
      refine wpAnyH_take (i := 9) (oi := { dst := some 49, op := Op.move (Operand.tmp 48), type := 4, pos := "redo.go:36", after := #[{ on := 8, ground := Ground.data }, { on := 4, ground := Ground.chain }], guard := none }) (v := ?_) rfl (by kernel_rfl) (by kernel_rfl) (by kernel_rfl) (fun _ _ _ h => h) (Or.inl ⟨by rfl, ?_⟩) hHeld ?_
      rotate_left
      · (intro W1 hSw; (try dsimp only at hSw); go_simp; first | done | (with_reducible rfl))
      try simp only [Act.put, List.setIfInBounds_toArray, List.set_cons_zero, List.set_cons_succ]
      refine wpAnyH_take (i := 10) (oi := { dst := some 50, op := Op.fieldAddr 176 (Operand.tmp 6) 0, type := 0, pos := "redo.go:36", after := #[{ on := 9, ground := Ground.guard }], guard := some (9, false) }) (v := undef) rfl (by kernel_rfl) (by kernel_rfl) (by kernel_rfl) (fun _ _ _ h => h) (Or.inr ⟨by rfl, rfl⟩) hHeld ?_
      try simp only [Act.put, List.setIfInBounds_toArray, List.set_cons_zero, List.set_cons_succ]
      refine wpAnyH_take (i := 11) (oi := { dst := some 51, op := Op.load 3 (Operand.tmp 50), type := 3, pos := "redo.go:36", after := #[{ on := 10, ground := Ground.data }, { on := 9, ground := Ground.guard }], guard := some (9, false) }) (v := undef) rfl (by kernel_rfl) (by kernel_rfl) (by kernel_rfl) (fun _ _ _ h => h) (Or.inr ⟨by rfl, rfl⟩) hHeld ?_
      try simp only [Act.put, List.setIfInBounds_toArray, List.set_cons_zero, List.set_cons_succ]
      refine wpAnyH_take (i := 12) (oi := { dst := some 52, op := Op.binOp BinOp.gtr 3 (Operand.tmp 51) (Operand.const (Value.int IntKind.i64 1099511627776)) 3, type := 4, pos := "redo.go:36", after := #[{ on := 11, ground := Ground.data }, { on := 9, ground := Ground.guard }], guard := some (9, false) }) (v := undef) rfl (by kernel_rfl) (by kernel_rfl) (by kernel_rfl) (fun _ _ _ h => h) (Or.inr ⟨by rfl, rfl⟩) hHeld ?_
      try simp only [Act.put, List.setIfInBounds_toArray, List.set_cons_zero, List.set_cons_succ]
      refine wpAnyH_take (i := 13) (oi := { dst := some 53, op := Op.pick (Operand.tmp 49) (Operand.const (Value.bool true)) (Operand.tmp 52), type := 4, pos := "redo.go:36", after := #[{ on := 9, ground := Ground.data }, { on := 12, ground := Ground.data }], guard := none }) (v := ?_) rfl (by kernel_rfl) (by kernel_rfl) (by kernel_rfl) (fun _ _ _ h => h) (Or.inl ⟨by rfl, ?_⟩) hHeld ?_
      rotate_left
      · (intro W1 hSw; (try dsimp only at hSw); go_simp; first | done | (with_reducible rfl))
      try simp only [Act.put, List.setIfInBounds_toArray, List.set_cons_zero, List.set_cons_succ]
      refine wpAnyH_take (i := 14) (oi := { dst := some 54, op := Op.move (Operand.tmp 53), type := 4, pos := "redo.go:36", after := #[{ on := 13, ground := Ground.data }, { on := 9, ground := Ground.chain }], guard := none }) (v := ?_) rfl (by kernel_rfl) (by kernel_rfl) (by kernel_rfl) (fun _ _ _ h => h) (Or.inl ⟨by rfl, ?_⟩) hHeld ?_
      rotate_left
      · (intro W1 hSw; (try dsimp only at hSw); go_simp; first | done | (with_reducible rfl))
      try simp only [Act.put, List.setIfInBounds_toArray, List.set_cons_zero, List.set_cons_succ]
      refine wpAnyH_take (i := 15) (oi := { dst := some 55, op := Op.fieldAddr 176 (Operand.tmp 6) 1, type := 0, pos := "redo.go:36", after := #[{ on := 14, ground := Ground.guard }], guard := some (14, false) }) (v := undef) rfl (by kernel_rfl) (by kernel_rfl) (by kernel_rfl) (fun _ _ _ h => h) (Or.inr ⟨by rfl, rfl⟩) hHeld ?_
      try simp only [Act.put, List.setIfInBounds_toArray, List.set_cons_zero, List.set_cons_succ]
      refine wpAnyH_take (i := 16) (oi := { dst := some 56, op := Op.load 3 (Operand.tmp 55), type := 3, pos := "redo.go:36", after := #[{ on := 15, ground := Ground.data }, { on := 14, ground := Ground.guard }], guard := some (14, false) }) (v := undef) rfl (by kernel_rfl) (by kernel_rfl) (by kernel_rfl) (fun _ _ _ h => h) (Or.inr ⟨by rfl, rfl⟩) hHeld ?_
      try simp only [Act.put, List.setIfInBounds_toArray, List.set_cons_zero, List.set_cons_succ]
      refine wpAnyH_take (i := 17) (oi := { dst := some 57, op := Op.binOp BinOp.lss 3 (Operand.tmp 56) (Operand.const (Value.int IntKind.i64 0)) 3, type := 4, pos := "redo.go:36", after := #[{ on := 16, ground := Ground.data }, { on := 14, ground := Ground.guard }], guard := some (14, false) }) (v := undef) rfl (by kernel_rfl) (by kernel_rfl) (by kernel_rfl) (fun _ _ _ h => h) (Or.inr ⟨by rfl, rfl⟩) hHeld ?_
      try simp only [Act.put, List.setIfInBounds_toArray, List.set_cons_zero, List.set_cons_succ]
      refine wpAnyH_take (i := 18) (oi := { dst := some 58, op := Op.pick (Operand.tmp 54) (Operand.const (Value.bool true)) (Operand.tmp 57), type := 4, pos := "redo.go:36", after := #[{ on := 14, ground := Ground.data }, { on := 17, ground := Ground.data }], guard := none }) (v := ?_) rfl (by kernel_rfl) (by kernel_rfl) (by kernel_rfl) (fun _ _ _ h => h) (Or.inl ⟨by rfl, ?_⟩) hHeld ?_
      rotate_left
      · (intro W1 hSw; (try dsimp only at hSw); go_simp; first | done | (with_reducible rfl))
      try simp only [Act.put, List.setIfInBounds_toArray, List.set_cons_zero, List.set_cons_succ]
      refine wpAnyH_take (i := 19) (oi := { dst := some 59, op := Op.move (Operand.tmp 58), type := 4, pos := "redo.go:36", after := #[{ on := 18, ground := Ground.data }, { on := 14, ground := Ground.chain }], guard := none }) (v := ?_) rfl (by kernel_rfl) (by kernel_rfl) (by kernel_rfl) (fun _ _ _ h => h) (Or.inl ⟨by rfl, ?_⟩) hHeld ?_
      rotate_left
      · (intro W1 hSw; (try dsimp only at hSw); go_simp; first | done | (with_reducible rfl))
      try simp only [Act.put, List.setIfInBounds_toArray, List.set_cons_zero, List.set_cons_succ]
      refine wpAnyH_take (i := 20) (oi := { dst := some 60, op := Op.fieldAddr 176 (Operand.tmp 6) 1, type := 0, pos := "redo.go:36", after := #[{ on := 19, ground := Ground.guard }], guard := some (19, false) }) (v := undef) rfl (by kernel_rfl) (by kernel_rfl) (by kernel_rfl) (fun _ _ _ h => h) (Or.inr ⟨by rfl, rfl⟩) hHeld ?_
      try simp only [Act.put, List.setIfInBounds_toArray, List.set_cons_zero, List.set_cons_succ]
      refine wpAnyH_take (i := 21) (oi := { dst := some 61, op := Op.load 3 (Operand.tmp 60), type := 3, pos := "redo.go:36", after := #[{ on := 20, ground := Ground.data }, { on := 19, ground := Ground.guard }], guard := some (19, false) }) (v := undef) rfl (by kernel_rfl) (by kernel_rfl) (by kernel_rfl) (fun _ _ _ h => h) (Or.inr ⟨by rfl, rfl⟩) hHeld ?_
      try simp only [Act.put, List.setIfInBounds_toArray, List.set_cons_zero, List.set_cons_succ]
      refine wpAnyH_take (i := 22) (oi := { dst := some 62, op := Op.binOp BinOp.gtr 3 (Operand.tmp 61) (Operand.const (Value.int IntKind.i64 1)) 3, type := 4, pos := "redo.go:36", after := #[{ on := 21, ground := Ground.data }, { on := 19, ground := Ground.guard }], guard := some (19, false) }) (v := undef) rfl (by kernel_rfl) (by kernel_rfl) (by kernel_rfl) (fun _ _ _ h => h) (Or.inr ⟨by rfl, rfl⟩) hHeld ?_
      try simp only [Act.put, List.setIfInBounds_toArray, List.set_cons_zero, List.set_cons_succ]
      refine wpAnyH_take (i := 23) (oi := { dst := some 63, op := Op.pick (Operand.tmp 59) (Operand.const (Value.bool true)) (Operand.tmp 62), type := 4, pos := "redo.go:36", after := #[{ on := 19, ground := Ground.data }, { on := 22, ground := Ground.data }], guard := none }) (v := ?_) rfl (by kernel_rfl) (by kernel_rfl) (by kernel_rfl) (fun _ _ _ h => h) (Or.inl ⟨by rfl, ?_⟩) hHeld ?_
      rotate_left
      · (intro W1 hSw; (try dsimp only at hSw); go_simp; first | done | (with_reducible rfl))
      try simp only [Act.put, List.setIfInBounds_toArray, List.set_cons_zero, List.set_cons_succ]
      refine wpAnyH_take (i := 24) (oi := { dst := some 64, op := Op.move (Operand.tmp 63), type := 4, pos := "redo.go:36", after := #[{ on := 23, ground := Ground.data }, { on := 19, ground := Ground.chain }], guard := none }) (v := ?_) rfl (by kernel_rfl) (by kernel_rfl) (by kernel_rfl) (fun _ _ _ h => h) (Or.inl ⟨by rfl, ?_⟩) hHeld ?_
      rotate_left
      · (intro W1 hSw; (try dsimp only at hSw); go_simp; first | done | (with_reducible rfl))
      try simp only [Act.put, List.setIfInBounds_toArray, List.set_cons_zero, List.set_cons_succ]
      refine wpAnyH_take (i := 25) (oi := { dst := some 65, op := Op.fieldAddr 176 (Operand.tmp 6) 2, type := 0, pos := "redo.go:36", after := #[{ on := 24, ground := Ground.guard }], guard := some (24, false) }) (v := undef) rfl (by kernel_rfl) (by kernel_rfl) (by kernel_rfl) (fun _ _ _ h => h) (Or.inr ⟨by rfl, rfl⟩) hHeld ?_
      try simp only [Act.put, List.setIfInBounds_toArray, List.set_cons_zero, List.set_cons_succ]
      refine wpAnyH_take (i := 26) (oi := { dst := some 66, op := Op.load 3 (Operand.tmp 65), type := 3, pos := "redo.go:36", after := #[{ on := 25, ground := Ground.data }, { on := 24, ground := Ground.guard }], guard := some (24, false) }) (v := undef) rfl (by kernel_rfl) (by kernel_rfl) (by kernel_rfl) (fun _ _ _ h => h) (Or.inr ⟨by rfl, rfl⟩) hHeld ?_
      try simp only [Act.put, List.setIfInBounds_toArray, List.set_cons_zero, List.set_cons_succ]
      refine wpAnyH_take (i := 27) (oi := { dst := some 67, op := Op.binOp BinOp.lss 3 (Operand.tmp 66) (Operand.const (Value.int IntKind.i64 0)) 3, type := 4, pos := "redo.go:36", after := #[{ on := 26, ground := Ground.data }, { on := 24, ground := Ground.guard }], guard := some (24, false) }) (v := undef) rfl (by kernel_rfl) (by kernel_rfl) (by kernel_rfl) (fun _ _ _ h => h) (Or.inr ⟨by rfl, rfl⟩) hHeld ?_
      try simp only [Act.put, List.setIfInBounds_toArray, List.set_cons_zero, List.set_cons_succ]
      refine wpAnyH_take (i := 28) (oi := { dst := some 68, op := Op.pick (Operand.tmp 64) (Operand.const (Value.bool true)) (Operand.tmp 67), type := 4, pos := "redo.go:36", after := #[{ on := 24, ground := Ground.data }, { on := 27, ground := Ground.data }], guard := none }) (v := ?_) rfl (by kernel_rfl) (by kernel_rfl) (by kernel_rfl) (fun _ _ _ h => h) (Or.inl ⟨by rfl, ?_⟩) hHeld ?_
      rotate_left
      · (intro W1 hSw; (try dsimp only at hSw); go_simp; first | done | (with_reducible rfl))
      try simp only [Act.put, List.setIfInBounds_toArray, List.set_cons_zero, List.set_cons_succ]
      refine wpAnyH_take (i := 29) (oi := { dst := some 69, op := Op.move (Operand.tmp 68), type := 4, pos := "redo.go:36", after := #[{ on := 28, ground := Ground.data }, { on := 24, ground := Ground.chain }], guard := none }) (v := ?_) rfl (by kernel_rfl) (by kernel_rfl) (by kernel_rfl) (fun _ _ _ h => h) (Or.inl ⟨by rfl, ?_⟩) hHeld ?_
      rotate_left
      · (intro W1 hSw; (try dsimp only at hSw); go_simp; first | done | (with_reducible rfl))
      try simp only [Act.put, List.setIfInBounds_toArray, List.set_cons_zero, List.set_cons_succ]
      refine wpAnyH_take (i := 30) (oi := { dst := some 70, op := Op.fieldAddr 176 (Operand.tmp 6) 2, type := 0, pos := "redo.go:36", after := #[{ on := 29, ground := Ground.guard }], guard := some (29, false) }) (v := undef) rfl (by kernel_rfl) (by kernel_rfl) (by kernel_rfl) (fun _ _ _ h => h) (Or.inr ⟨by rfl, rfl⟩) hHeld ?_
      try simp only [Act.put, List.setIfInBounds_toArray, List.set_cons_zero, List.set_cons_succ]
      refine wpAnyH_take (i := 31) (oi := { dst := some 71, op := Op.load 3 (Operand.tmp 70), type := 3, pos := "redo.go:36", after := #[{ on := 30, ground := Ground.data }, { on := 29, ground := Ground.guard }], guard := some (29, false) }) (v := undef) rfl (by kernel_rfl) (by kernel_rfl) (by kernel_rfl) (fun _ _ _ h => h) (Or.inr ⟨by rfl, rfl⟩) hHeld ?_
      try simp only [Act.put, List.setIfInBounds_toArray, List.set_cons_zero, List.set_cons_succ]
      refine wpAnyH_take (i := 32) (oi := { dst := some 72, op := Op.move (Operand.tmp 0), type := 68, pos := "redo.go:36", after := #[{ on := 29, ground := Ground.guard }], guard := some (29, false) }) (v := undef) rfl (by kernel_rfl) (by kernel_rfl) (by kernel_rfl) (fun _ _ _ h => h) (Or.inr ⟨by rfl, rfl⟩) hHeld ?_
      try simp only [Act.put, List.setIfInBounds_toArray, List.set_cons_zero, List.set_cons_succ]
      refine wpAnyH_take (i := 33) (oi := { dst := some 73, op := Op.call { callee := Callee.value (Operand.func 92), args := #[Operand.tmp 72], argTypes := #[68] }, type := 3, pos := "redo.go:36", after := #[{ on := 32, ground := Ground.data }, { on := 29, ground := Ground.chain }, { on := 29, ground := Ground.guard }], guard := some (29, false) }) (v := undef) rfl (by kernel_rfl) (by kernel_rfl) (by kernel_rfl) (fun _ _ _ h => h) (Or.inr ⟨by rfl, rfl⟩) hHeld ?_
      try simp only [Act.put, List.setIfInBounds_toArray, List.set_cons_zero, List.set_cons_succ]
      refine wpAnyH_take (i := 34) (oi := { dst := some 74, op := Op.binOp BinOp.mul 3 (Operand.tmp 73) (Operand.const (Value.int IntKind.i64 64)) 3, type := 3, pos := "redo.go:36", after := #[{ on := 33, ground := Ground.data }, { on := 29, ground := Ground.guard }], guard := some (29, false) }) (v := undef) rfl (by kernel_rfl) (by kernel_rfl) (by kernel_rfl) (fun _ _ _ h => h) (Or.inr ⟨by rfl, rfl⟩) hHeld ?_
      try simp only [Act.put, List.setIfInBounds_toArray, List.set_cons_zero, List.set_cons_succ]
      refine wpAnyH_take (i := 35) (oi := { dst := some 75, op := Op.binOp BinOp.gtr 3 (Operand.tmp 71) (Operand.tmp 74) 3, type := 4, pos := "redo.go:36", after := #[{ on := 31, ground := Ground.data }, { on := 34, ground := Ground.data }, { on := 29, ground := Ground.guard }], guard := some (29, false) }) (v := undef) rfl (by kernel_rfl) (by kernel_rfl) (by kernel_rfl) (fun _ _ _ h => h) (Or.inr ⟨by rfl, rfl⟩) hHeld ?_
      try simp only [Act.put, List.setIfInBounds_toArray, List.set_cons_zero, List.set_cons_succ]
      refine wpAnyH_take (i := 36) (oi := { dst := some 76, op := Op.pick (Operand.tmp 69) (Operand.const (Value.bool true)) (Operand.tmp 75), type := 4, pos := "redo.go:36", after := #[{ on := 29, ground := Ground.data }, { on := 35, ground := Ground.data }], guard := none }) (v := ?_) rfl (by kernel_rfl) (by kernel_rfl) (by kernel_rfl) (fun _ _ _ h => h) (Or.inl ⟨by rfl, ?_⟩) hHeld ?_
      rotate_left
      · (intro W1 hSw; (try dsimp only at hSw); go_simp; first | done | (with_reducible rfl))
      try simp only [Act.put, List.setIfInBounds_toArray, List.set_cons_zero, List.set_cons_succ]
      refine wpAnyH_done (by kernel_rfl) ?_ _
      clear hHeld
      go_wp2_with (first
        | (refine wpList_store_blk rfl 176 _ _ rfl w.heap.size 176 [.int .i64 0, .int .i64 0, .int .i64 0] [.int .i64 0, .int .i64 0, .int .i64 0] KR.out rfl rfl rfl size_rhead (by simp [Value.oneCell']) ?_
           intro wz KZ FZ))
      exact bodyPost_ret (res_agg rfl _ _ w.heap.size 176 [.int .i64 0, .int .i64 0, .int .i64 0] _ KZ rfl Tryz.underlying176 rfl size_rhead) rfl ⟨rfl, (bdrewN BZ.out 1).trans (FZ.below BZ.out.size (by simp))⟩
      -- END REGION read
    · have h1 : (k : Int) < 61 := by omega
      have hz : w9.cell? ⟨g, 3 + k, none⟩ = some (.int .u8 0) := HZ9.out.2 k (by omega)
      clear hkn hk
      go_wp2_with fail
      go_roundw
      case rel => exact ⟨⟨k + 1, by simp, by omega⟩, by first | rfl | trivial⟩
      case measure => simp [intOf]; omega
end Go.Proofs.YtdfkdgnhpdgphaaGreatDoor

/-
  The reference's log over noughts: entries of none, Open. (The region is printed by mk/rfd.py.)
-/
namespace Go.Proofs.YtdfkdgnhpdgphaaGreatDoor
open Go.RowKit Go.Proofs.Lig

set_option maxRecDepth 100000 in
theorem ref_entries (w : World) (A : Option Addr) (cap : Nat) : Calls Tryz.prog 94 #[.slice A 0 cap] w fun e w' => e = .returned (.tuple #[.slice none 0 0, .bool true]) ∧ Below w.heap.size w w' := by
  have B1 := hid (below_alloc w (.cells #[.slice A 0 cap, .bool false] 194))
  have K1 := Blk.new w 194 [.slice A 0 cap, .bool false]
  have c0 : (w.alloc (.cells #[.slice A 0 cap, .bool false] 194)).cell? ⟨w.heap.size, 0, none⟩ = some (.slice A 0 cap) := K1.cell 0
  have c1 : (w.alloc (.cells #[.slice A 0 cap, .bool false] 194)).cell? ⟨w.heap.size, 1, none⟩ = some (.bool false) := K1.cell 1
  clear K1
  go_enter Tryz.func94, Tryz.ntmps94
  go_wp2_with fail
  generalize w.alloc (.cells #[.slice A 0 cap, .bool false] 194) = w1 at *
  go_loopw [5] (fun v wr => v = .slice none 0 0 ∧ w1 = wr) (fun _ _ => 1)
  case atStart => exact ⟨rfl, rfl⟩
  case round =>
    obtain ⟨rfl, rfl⟩ := hrel
    go_wp2_with fail
    go_region
    all_goals
      go_wp2_with fail
      go_ret2
      exact ⟨rfl, bdrewN B1.out 1⟩
set_option maxRecDepth 100000 in
theorem ref_store (w : World) : Calls Tryz.prog 46 #[] w fun e w' => ∃ s, e = .returned (.pointer (some ⟨s, 0, none⟩)) ∧ Below w.heap.size w w' := by
  go_enter Tryz.func46, Tryz.ntmps46
  go_wp2_with fail
  go_ret
  exact ⟨_, rfl, ((Below.refl _ w).alloc (Nat.le_refl _) _).alloc (by simp) _⟩
set_option maxRecDepth 100000 in
theorem zs_src {w : World} {g : Nat} (h : Zs w g 0 64) : ∀ (j : Nat) (u : Value), (u8s (List.replicate 64 0))[j]? = some u → w.cell? ((⟨g, 0, none⟩ : Addr).add j) = some u := fun j u hu => by
  have hj : j < 64 := by simpa [u8s] using (List.getElem?_eq_some_iff.1 hu).1
  have e : (.int .u8 0 : Value) = u := by
    rw [u8s, List.map_replicate, List.getElem?_replicate, if_pos hj] at hu
    exact Option.some.inj hu
  rw [Addr.add_mid, h.2 j hj, e]
set_option maxHeartbeats 4000000 in
set_option maxRecDepth 100000 in
theorem ref_open (w : World) (D n : Nat) (h : RDrum w D n) (hn4 : 4 ≤ n) (hn : n ≤ 200) : Calls Tryz.prog 45 #[.pointer (some ⟨D, 0, none⟩)] w fun e w' => ∃ l, e = .returned (.tuple #[.pointer (some ⟨l, 0, none⟩), .slice none 0 0, .int .i64 0]) ∧ Below w.heap.size w w' := by
  obtain ⟨i0, hi0, hz0, hz1, hz2⟩ := info_parts info_u8
  have hpos1 : 0 < 1 := by omega
  obtain ⟨v, b, dcap, N, h1, h2⟩ := h.ex
  have c1 : w.cell? ⟨D, 1, none⟩ = some (.slice (some ⟨b, 0, none⟩) n dcap) := h1.cell 1
  have hnI : (4 : Int) ≤ (n : Int) := by omega
  have HH := hid h
  have HN4 := hid hn4
  have HN := hid hn
  have HC1 := hid h1
  clear h h1 h2
  go_enter Tryz.func45, Tryz.ntmps45
  go_wp2_with fail
  refine (ref_head w D n HH.out 0 (by omega)).mono ?_
  rintro e w1 ⟨rfl, b1⟩
  have HB1 := hid b1
  have H1 := hid (HH.out.below b1)
  clear b1 c1
  go_wp2_with fail
  refine (ref_head w1 D n H1.out 1 (by omega)).mono ?_
  rintro e w2 ⟨rfl, b2⟩
  have HB2 := hid (bstep0 HB1.out b2)
  have H2 := hid (H1.out.below b2)
  clear b2
  go_wp2_with fail
  have b3 := (below_alloc w2 (.cells #[.int .i64 0, .int .i64 0, .int .i64 0] 176)).alloc (by simp) (.cells #[.int .i64 0, .int .i64 0, .int .i64 0] 176)
  have HHB3 := hid ((Blk.new w2 176 [.int .i64 0, .int .i64 0, .int .i64 0]).alloc (.cells #[.int .i64 0, .int .i64 0, .int .i64 0] 176))
  have HB3 := hid (bstep0 HB2.out b3)
  have H3 := hid (H2.out.below b3)
  have HHBL : Hid (w.heap.size ≤ w2.heap.size) := HB2.out.size
  obtain ⟨hb, hhb⟩ : ∃ hb, w2.heap.size = hb := ⟨_, rfl⟩
  rw [hhb] at HHB3 HHBL
  generalize (w2.alloc (.cells #[.int .i64 0, .int .i64 0, .int .i64 0] 176)).alloc (.cells #[.int .i64 0, .int .i64 0, .int .i64 0] 176) = w3 at *
  simp only [hhb]
  clear b3 H1 H2 HB1 HB2 hhb
  obtain ⟨m, hm⟩ : ∃ m, (n - 2) / 2 = m := ⟨_, rfl⟩
  have hm1 : 2 + m < n := by have := HN4.out; omega
  have HMM := hid hm
  have HM1 := hid hm1
  have hm100 : m ≤ 100 := by have := HN.out; omega
  clear hm hm1
  go_loopw [7, 8] (fun v i wr => ∃ (k : Nat) (A : Option Addr) (cap : Nat) (ys : List Int), v = .slice A ys.length cap ∧ i = .int .i64 (k : Int) ∧ k ≤ m ∧ Hid (ys.length = 64 * k) ∧ Hid (BRow wr w.heap.size A cap ys) ∧ Hid (Blk wr hb 176 [.int .i64 0, .int .i64 0, .int .i64 0]) ∧ Hid (RDrum wr D n) ∧ Hid (Below w.heap.size w wr)) (fun _ i _ => ((m : Int) - intOf i).toNat)
  case atStart => exact ⟨0, none, 0, [], rfl, rfl, by omega, rfl, ⟨World.ownsRow_nil _ _ _ _, fun x hx => by simp at hx⟩, HHB3.out, H3, HB3⟩
  case round =>
    obtain ⟨k, A, cap, ys, rfl, rfl, hk, HYL, HR, HHB, HRD0, HBW⟩ := hrel
    have HSC : Hid (Calls Tryz.prog 92 #[.pointer (some ⟨D, 0, none⟩)] wr fun e w' => e = .returned (.int .i64 (m : Int)) ∧ wr = w') := by
      have := ref_sectors wr D n HRD0.out HN4.out HN.out
      rwa [HMM.out] at this
    go_wp2_with fail
    refine HSC.out.mono ?_
    rintro e wz ⟨rfl, rfl⟩
    by_cases hkm : k = m
    · subst hkm
      have h02 : wr.cell? ⟨hb, 2, none⟩ = some (.int .i64 0) := HHB.out.cell 2
      clear hk
      go_wp2_with fail
      refine (ref_entries wr A cap).mono ?_
      rintro e wq ⟨rfl, bq⟩
      have HBQ := hid (HBW.out.trans (bq.mono HBW.out.size))
      have HHQ := hid (HHB.out.below bq HHB.out.lt)
      clear bq h02
      go_wp2_with (first
        | (refine wpList_load_blk rfl 176 _ rfl hb 176 [.int .i64 0, .int .i64 0, .int .i64 0] _ HHQ.out rfl Tryz.underlying176 rfl size_rhead ?_))
      exact bodyPost_ret (v := .tuple #[.pointer (some ⟨wq.heap.size, 0, none⟩), .slice none 0 0, .int .i64 0]) (by simp [results, Tryz.results45, go_sem]) rfl ⟨wq.heap.size, rfl, HBQ.out.alloc HBQ.out.size _⟩
    · have hlt : (k : Int) < (m : Int) := by omega
      have HKM : Hid (k < m) := by show k < m; omega
      have HSE : Hid (Calls Tryz.prog 92 #[.pointer (some ⟨D, 0, none⟩)] wr.drew fun e w' => e = .returned (.int .i64 (m : Int)) ∧ wr.drew = w') := by
        have := ref_sectors wr.drew D n (HRD0.out.below (below_drew wr)) HN4.out HN.out
        rwa [HMM.out] at this
      have HRD : Hid (Calls Tryz.prog 93 #[.pointer (some ⟨D, 0, none⟩), .int .i64 (2 + (k : Int))] wr.drew fun e w' => ∃ g c, e = .returned (.slice (some ⟨g, 0, none⟩) 64 (c + 64)) ∧ wr.drew.heap.size ≤ g ∧ Zs w' g 0 64 ∧ c + 64 ≤ maxLen ∧ Below wr.drew.heap.size wr.drew w') := by
        have := ref_read wr.drew D n (HRD0.out.below (below_drew wr)) (2 + k) (by have := HM1.out; have := HKM.out; omega)
        rwa [show (((2 + k : Nat)) : Int) = 2 + (k : Int) by omega] at this
      have HSX : Hid (∀ W, Below wr.heap.size wr W → w.heap.size ≤ W.heap.size) := fun W hW => Nat.le_trans HBW.out.size hW.size
      have HML : Hid (ys.length + 64 ≤ maxLen) := by show ys.length + 64 ≤ maxLen; have := HYL.out; unfold maxLen; omega
      have HBY : Hid ((ys.length + 64) * 1 ≤ 140737488355328) := by show (ys.length + 64) * 1 ≤ _; have := HYL.out; omega
      have HHL : Hid (hb < wr.drew.heap.size) := HHB.out.drew.lt
      have HS1 : Hid (wr.drew.cell? ⟨hb, 1, none⟩ = some (.int .i64 0)) := HHB.out.drew.cell 1
      have e0 : IntKind.i64.wrap 0 = 0 := by decide
      have e2 : IntKind.i64.wrap 2 = 2 := by decide
      have ek : IntKind.i64.wrap (2 + (k : Int)) = 2 + (k : Int) := i64_small (by omega) (by omega)
      have FIN : Hid (∀ (x7 : World) (A7 : Option Addr) (cap7 : Nat) (wb : World), Below wr.heap.size wr wb → x7.ownsRow w.heap.size 5 1 (.slice A7 (ys.length + 64) cap7) (ys.length + 64) (u8s ys ++ u8s (List.replicate 64 0)) → wb.grownBy x7 (Value.slice A ys.length cap).ownBlock → Blk x7 hb 176 [.int .i64 0, .int .i64 0, .int .i64 0] →
          ∃ (k' : Nat) (A' : Option Addr) (cap' : Nat) (ys' : List Int), Value.slice A7 (ys.length + 64) cap7 = .slice A' ys'.length cap' ∧ Value.int .i64 ((k : Int) + 1) = .int .i64 (k' : Int) ∧ k' ≤ m ∧ Hid (ys'.length = 64 * k') ∧ Hid (BRow x7 w.heap.size A' cap' ys') ∧ Hid (Blk x7 hb 176 [.int .i64 0, .int .i64 0, .int .i64 0]) ∧ Hid (RDrum x7 D n) ∧ Hid (Below w.heap.size w x7)) := fun x7 A7 cap7 wb bb o7 g7 k7 => by
        have hl : (ys ++ List.replicate 64 (0 : Int)).length = ys.length + 64 := by simp
        have og := own_tfr (ts := []) HR.out.own (.of_below bb) (by simp)
        refine ⟨k + 1, A7, cap7, ys ++ List.replicate 64 0, by rw [hl], by simp, HKM.out, ?_, ⟨?_, HR.out.bytes.append (fun x hx => ?_)⟩, k7, ?_, ?_⟩
        · show _ = _
          rw [hl, HYL.out]
          omega
        · rw [hl, u8s_append]
          exact o7
        · have := List.eq_of_mem_replicate hx
          omega
        · exact (HRD0.out.below bb).tfr (TFr.of_grown og g7) (by decide) (by decide)
        · exact (HBW.out.trans (bb.mono HBW.out.size)).trans (grown_below og (Nat.le_trans HBW.out.size bb.size) g7)
      clear hkm hk
      go_wp2_with fail
      -- REGION open
      refine wp_region_held_drew (S := fun W => W.cell? ⟨hb, 1, none⟩ = some (.int .i64 0)) (by kernel_rfl) HS1.out (fun hHeld => ?_)
      refine wpAnyH_take (i := 0) (oi := { dst := some 33, op := Op.move (Operand.tmp 7), type := 81, pos := "redo.go:63", after := #[], guard := none }) (v := ?_) rfl (by kernel_rfl) (by kernel_rfl) (by kernel_rfl) (fun _ _ _ h => h) (Or.inl ⟨by rfl, ?_⟩) hHeld ?_
      rotate_left
      · (intro W1 hSw; (try dsimp only at hSw); go_simp; first | done | (with_reducible rfl))
      try simp only [Act.put, List.setIfInBounds_toArray, List.set_cons_zero, List.set_cons_succ]
      refine wpAnyH_take (i := 1) (oi := { dst := some 34, op := Op.move (Operand.tmp 0), type := 68, pos := "redo.go:63", after := #[], guard := none }) (v := ?_) rfl (by kernel_rfl) (by kernel_rfl) (by kernel_rfl) (fun _ _ _ h => h) (Or.inl ⟨by rfl, ?_⟩) hHeld ?_
      rotate_left
      · (intro W1 hSw; (try dsimp only at hSw); go_simp; first | done | (with_reducible rfl))
      try simp only [Act.put, List.setIfInBounds_toArray, List.set_cons_zero, List.set_cons_succ]
      refine wpAnyH_take (i := 2) (oi := { dst := some 35, op := Op.fieldAddr 176 (Operand.tmp 5) 1, type := 0, pos := "redo.go:63", after := #[], guard := none }) (v := ?_) rfl (by kernel_rfl) (by kernel_rfl) (by kernel_rfl) (fun _ _ _ h => h) (Or.inl ⟨by rfl, ?_⟩) hHeld ?_
      rotate_left
      · (intro W1 hSw; (try dsimp only at hSw); go_simp; first | done | (with_reducible rfl))
      try simp only [Act.put, List.setIfInBounds_toArray, List.set_cons_zero, List.set_cons_succ]
      refine wpAnyH_take (i := 3) (oi := { dst := some 36, op := Op.load 3 (Operand.tmp 35), type := 3, pos := "redo.go:63", after := #[{ on := 2, ground := Ground.data }], guard := none }) (v := ?_) rfl (by kernel_rfl) (by kernel_rfl) (by kernel_rfl) (fun _ _ _ h => h) (Or.inl ⟨by rfl, ?_⟩) hHeld ?_
      rotate_left
      · (intro W1 hSw; (try dsimp only at hSw); go_simp; first | done | (with_reducible rfl))
      try simp only [Act.put, List.setIfInBounds_toArray, List.set_cons_zero, List.set_cons_succ]
      refine wpAnyH_take (i := 4) (oi := { dst := some 37, op := Op.move (Operand.tmp 0), type := 68, pos := "redo.go:63", after := #[], guard := none }) (v := ?_) rfl (by kernel_rfl) (by kernel_rfl) (by kernel_rfl) (fun _ _ _ h => h) (Or.inl ⟨by rfl, ?_⟩) hHeld ?_
      rotate_left
      · (intro W1 hSw; (try dsimp only at hSw); go_simp; first | done | (with_reducible rfl))
      try simp only [Act.put, List.setIfInBounds_toArray, List.set_cons_zero, List.set_cons_succ]
      refine wpAnyH_take (i := 8) (oi := { dst := some 41, op := Op.move (Operand.tmp 8), type := 3, pos := "redo.go:63", after := #[], guard := none }) (v := ?_) rfl (by kernel_rfl) (by kernel_rfl) (by kernel_rfl) (fun _ _ _ h => h) (Or.inl ⟨by rfl, ?_⟩) hHeld ?_
      rotate_left
      · (intro W1 hSw; (try dsimp only at hSw); go_simp; first | done | (with_reducible rfl))
      try simp only [Act.put, List.setIfInBounds_toArray, List.set_cons_zero, List.set_cons_succ]
      refine wpAnyH_ready (rs := [5]) (by kernel_rfl) (by simp) ?_
      refine AllReadyH.cons (o := { dst := some 38, op := Op.call { callee := Callee.value (Operand.func 92), args := #[Operand.tmp 37], argTypes := #[68] }, type := 3, pos := "redo.go:63", after := #[{ on := 4, ground := Ground.data }], guard := none }) rfl (fun K hK => ?_) AllReadyH.nil
      rw [if_pos (by rfl)]
      go_simp
      go_at_call 92
      refine HSE.out.mono ?_
      rintro e wa ⟨rfl, rfl⟩
      refine hK.out _ _ hHeld (fun hHeld => ?_)
      clear hK K
      try simp only [Act.put, List.setIfInBounds_toArray, List.set_cons_zero, List.set_cons_succ]
      refine wpAnyH_take (i := 6) (oi := { dst := some 39, op := Op.binOp BinOp.mul 3 (Operand.tmp 36) (Operand.tmp 38) 3, type := 3, pos := "redo.go:63", after := #[{ on := 3, ground := Ground.data }, { on := 5, ground := Ground.data }], guard := none }) (v := ?_) rfl (by kernel_rfl) (by kernel_rfl) (by kernel_rfl) (fun _ _ _ h => h) (Or.inl ⟨by rfl, ?_⟩) hHeld ?_
      rotate_left
      · (intro W1 hSw; (try dsimp only at hSw); go_simp; first | done | (with_reducible rfl))
      try simp only [Act.put, List.setIfInBounds_toArray, List.set_cons_zero, List.set_cons_succ]
      refine wpAnyH_take (i := 7) (oi := { dst := some 40, op := Op.binOp BinOp.add 3 (Operand.const (Value.int IntKind.i64 2)) (Operand.tmp 39) 3, type := 3, pos := "redo.go:63", after := #[{ on := 6, ground := Ground.data }], guard := none }) (v := ?_) rfl (by kernel_rfl) (by kernel_rfl) (by kernel_rfl) (fun _ _ _ h => h) (Or.inl ⟨by rfl, ?_⟩) hHeld ?_
      rotate_left
      · (intro W1 hSw; (try dsimp only at hSw); go_simp; first | done | (with_reducible rfl))
      try simp only [Act.put, List.setIfInBounds_toArray, List.set_cons_zero, List.set_cons_succ]
      refine wpAnyH_take (i := 9) (oi := { dst := some 42, op := Op.binOp BinOp.add 3 (Operand.tmp 40) (Operand.tmp 41) 3, type := 3, pos := "redo.go:63", after := #[{ on := 7, ground := Ground.data }, { on := 8, ground := Ground.data }], guard := none }) (v := ?_) rfl (by kernel_rfl) (by kernel_rfl) (by kernel_rfl) (fun _ _ _ h => h) (Or.inl ⟨by rfl, ?_⟩) hHeld ?_
      rotate_left
      · (intro W1 hSw; (try dsimp only at hSw); go_simp; first | done | (with_reducible rfl))
      try simp only [Act.put, List.setIfInBounds_toArray, List.set_cons_zero, List.set_cons_succ]
      refine wpAnyH_ready (rs := [10]) (by kernel_rfl) (by simp) ?_
      refine AllReadyH.cons (o := { dst := some 43, op := Op.call { callee := Callee.value (Operand.func 93), args := #[Operand.tmp 34, Operand.tmp 42], argTypes := #[68, 3] }, type := 81, pos := "redo.go:63", after := #[{ on := 1, ground := Ground.data }, { on := 9, ground := Ground.data }, { on := 5, ground := Ground.chain }], guard := none }) rfl (fun K hK => ?_) AllReadyH.nil
      rw [if_pos (by rfl)]
      go_simp
      go_at_call 93
      refine HRD.out.mono ?_
      rintro e wb ⟨g5, c5, rfl, g6, z5, m5, b5⟩
      have HZ5 := hid z5
      have HB5 := hid b5
      have HM5 := hid m5
      clear z5 b5 m5 g6
      refine hK.out _ _ ((World.cell?_of_block (HB5.out.block _ HHL.out)).trans hHeld) (fun hHeld => ?_)
      clear hK K
      try simp only [Act.put, List.setIfInBounds_toArray, List.set_cons_zero, List.set_cons_succ]
      refine wpAnyH_ready (rs := [11]) (by kernel_rfl) (by simp) ?_
      refine AllReadyH.cons (o := { dst := some 44, op := Op.call { callee := Callee.builtin Builtin.append, args := #[Operand.tmp 33, Operand.tmp 43], argTypes := #[81, 81] }, type := 81, pos := "redo.go:63", after := #[{ on := 0, ground := Ground.data }, { on := 10, ground := Ground.data }, { on := 10, ground := Ground.chain }], guard := none }) rfl (fun K hK => ?_) AllReadyH.nil
      refine step_append_all rfl _ _ _ rfl w.heap.size 5 i0 _ 1 1 Tryz.underlying81 hi0 hz0 hz1 hz2 rfl hpos1 A cap ys.length (u8s ys) rfl (own_tfr (ts := []) HR.out.own (.of_below (bstep0 (below_drew wr) HB5.out)) (by simp)) (some ⟨g5, 0, none⟩) 64 (c5 + 64) (u8s (List.replicate 64 0)) rfl (by simp [u8s]) (by simp) (fun ad had j u hu => by cases had; exact zs_src HZ5.out j u hu) (u8s_one _) HML.out HBY.out (HSX.out _ (bstep0 (below_drew wr) HB5.out)) ?_
      intro A7 cap7 w7 hown7 hgrow7 hat7
      have HH7 := hid ((HHB.out.below (bstep0 (below_drew wr) HB5.out) HHB.out.lt).grown hgrow7 (own_ne (own_tfr (ts := []) HR.out.own (.of_below (bstep0 (below_drew wr) HB5.out)) (by simp)) (HHB.out.below (bstep0 (below_drew wr) HB5.out) HHB.out.lt) (by decide)))
      refine hK.out _ _ (HH7.out.cell 1) (fun hHeld => ?_)
      clear hK K
      try simp only [Act.put, List.setIfInBounds_toArray, List.set_cons_zero, List.set_cons_succ]
      refine wpAnyH_take (i := 12) (oi := { dst := some 7, op := Op.assign (Operand.tmp 44), type := 81, pos := "redo.go:63", after := #[{ on := 11, ground := Ground.data }, { on := 11, ground := Ground.chain }, { on := 0, ground := Ground.phase }, { on := 1, ground := Ground.phase }, { on := 2, ground := Ground.phase }, { on := 3, ground := Ground.phase }, { on := 4, ground := Ground.phase }, { on := 5, ground := Ground.phase }, { on := 6, ground := Ground.phase }, { on := 7, ground := Ground.phase }, { on := 8, ground := Ground.phase }, { on := 9, ground := Ground.phase }, { on := 10, ground := Ground.phase }, { on := 11, ground := Ground.phase }], guard := none }) (v := ?_) rfl (by kernel_rfl) (by kernel_rfl) (by kernel_rfl) (fun _ _ _ h => h) (Or.inl ⟨by rfl, ?_⟩) hHeld ?_
      rotate_left
      · (intro W1 hSw; (try dsimp only at hSw); go_simp; first | done | (with_reducible rfl))
      try simp only [Act.put, List.setIfInBounds_toArray, List.set_cons_zero, List.set_cons_succ]
      refine wpAnyH_done (by kernel_rfl) ?_ _
      clear hHeld
      go_wp2_with fail
      go_roundw
      case rel => exact FIN.out _ _ _ _ (bstep0 (below_drew wr) HB5.out) hown7 hgrow7 HH7.out
      case measure => simp [intOf]; omega
      -- END REGION open
end Go.Proofs.YtdfkdgnhpdgphaaGreatDoor

/-
  The reference's database over noughts: Open.
-/
namespace Go.Proofs.YtdfkdgnhpdgphaaGreatDoor
open Go.RowKit Go.Proofs.Lig

set_option maxRecDepth 100000 in
theorem ref_db (w : World) (D n : Nat) (h : RDrum w D n) (hn4 : 4 ≤ n) (hn : n ≤ 200) : Calls Tryz.prog 18 #[.pointer (some ⟨D, 0, none⟩)] w fun e w' => ∃ y, e = .returned (.tuple #[.pointer (some ⟨y, 0, none⟩), .int .i64 0]) ∧ Below w.heap.size w w' := by
  have HO := hid (ref_open w D n h hn4 hn)
  clear h hn4 hn
  go_enter Tryz.func18, Tryz.ntmps18
  go_wp2_with fail
  refine HO.out.mono ?_
  rintro e w1 ⟨l, rfl, b1⟩
  have HB1 := hid b1
  clear b1
  go_wp2_with fail
  refine (ref_store w1).mono ?_
  rintro e w2 ⟨s, rfl, b2⟩
  have HB2 := hid (bstep0 HB1.out b2)
  clear b2
  go_wp2_with fail
  go_loopw [8] (fun v wr => v = .int .i64 0 ∧ Hid (Below w.heap.size w wr)) (fun _ _ => 1)
  case atStart => exact ⟨rfl, HB2.out.alloc HB2.out.size _⟩
  case round =>
    obtain ⟨rfl, HB3⟩ := hrel
    go_wp2_with fail
    go_ret2
    exact ⟨_, rfl, HB3.out⟩
set_option maxRecDepth 100000 in
theorem ref_of (w : World) (D : Nat) (v : Value) (A : Option Addr) (n cap N : Nat) (h1 : Blk w D 135 (rdCells v A n cap)) (h2 : w.ownsRow N 9 1 (.slice A n cap) n (List.replicate n (.string nul64))) (hn : 0 < n) : RDrum w D n := by
  rcases h2.2 with ⟨hv, h0⟩ | ⟨g, cap', cur, hv, hh⟩
  · omega
  · injection hv with e1
    subst e1
    exact ⟨v, g, cap, N, h1, h2⟩
end Go.Proofs.YtdfkdgnhpdgphaaGreatDoor
