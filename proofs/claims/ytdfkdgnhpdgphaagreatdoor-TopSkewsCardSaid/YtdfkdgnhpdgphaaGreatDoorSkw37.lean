/-
  The reference's leb: Int of 0; Cursor.Int over a nought. (The region is printed by mk/rfa.py.)
-/
import Derived.Deep.RegionHeld3
import Derived.Test.YtdfkdgnhpdgphaaGreatDoorSkw33
import Derived.Test.YtdfkdgnhpdgphaaGreatDoorSkw0
import Derived.Laws.CopyOwn
import Derived.Laws.MakeOwn
namespace Go.Proofs.YtdfkdgnhpdgphaaGreatDoor
open Go.RowKit Go.Proofs.Lig

set_option maxRecDepth 100000 in
theorem ref_int_zero (w : World) : Calls Tryz.prog 165 #[.int .i64 0] w fun e w' => ∃ g cap, e = .returned (.slice (some ⟨g, 0, none⟩) 1 cap) ∧ w'.cell? ⟨g, 0, none⟩ = some (.int .u8 0) ∧ Below w.heap.size w w' := by
  obtain ⟨i0, hi0, hz0, hz1, hz2⟩ := info_parts info_u8
  have HW : Hid (w.ownsRow w.heap.size 5 1 (.slice none 0 0) 0 []) := World.ownsRow_nil _ _ _ _
  go_enter Tryz.func165, Tryz.ntmps165
  go_wp2_with fail
  go_loopw [3, 4] (fun z b wr => z = .int .u64 0 ∧ b = .slice none 0 0 ∧ w = wr) (fun _ _ _ => 1)
  case atStart => exact ⟨rfl, rfl, rfl⟩
  case round =>
    obtain ⟨rfl, rfl, rfl⟩ := hrel
    go_wp2_with (first
      | (at_builtin
         refine wpList_append_all (by rfl) _ _ _ (by rfl) w.heap.size 5 i0 _ 1 1 Tryz.underlying81 hi0 hz0 hz1 hz2 rfl (by omega) none 0 0 [] (by first | rfl | simp [Act.eval]) (HW.out.alloc _) (some ⟨w.heap.size, 0, none⟩) 1 1 [.int .u8 0] (by first | rfl | simp [Act.eval]) (by rfl) (by simp) (fun ad had => by cases had; exact World.news_of_block (cs := #[.int .u8 0]) (heap_alloc_new w _)) (by simp [Value.oneCell']) (by unfold maxLen; omega) (by omega) (by simp) ?_
         intro A1 cap1 w1 hown1 hgrow1 hat1
         have B1 := hid (((Below.refl _ w).alloc (Nat.le_refl _) (.cells #[.int .u8 0] 5)).trans (grown_below (HW.out.alloc _) (by simp) hgrow1))))
    go_ret
    obtain ⟨g, e1, e2⟩ : ∃ g, A1 = some ⟨g, 0, none⟩ ∧ w1.cell? ⟨g, 0, none⟩ = some (.int .u8 0) := by
      have R : BRow w1 w.heap.size A1 cap1 [0] := ⟨by simpa [u8s] using hown1, fun x hx => by
        obtain rfl : x = 0 := by simpa using hx
        omega⟩
      rcases R.own.2 with ⟨hv, h0⟩ | ⟨g, cap', cur, hv, hh⟩
      · simp at h0
      · injection hv with e1
        subst e1
        exact ⟨g, rfl, (R.src.1 _ rfl).2 0 _ rfl⟩
    subst e1
    exact ⟨g, cap1, rfl, e2, B1.out⟩
set_option maxRecDepth 100000 in
/-- A cursor that has read one more byte. -/
theorem ref_cur_int (w : World) (Cb g o n c : Nat) (h : Blk w Cb 194 [.slice (some ⟨g, o, none⟩) (n + 1) (c + 2), .bool false]) (_hnc : n ≤ c + 1) (hc : (c : Int) ≤ 9223372036854775805) (hz : w.cell? ⟨g, o, none⟩ = some (.int .u8 0)) (hg : g < w.heap.size) :
    Calls Tryz.prog 95 #[.pointer (some ⟨Cb, 0, none⟩)] w fun e w' => e = .returned (.int .i64 0) ∧ Blk w' Cb 194 [.slice (some ⟨g, o + 1, none⟩) n (c + 1), .bool false] ∧ Fr [Cb] w w' := by
  have c0 : w.cell? ⟨Cb, 0, none⟩ = some (.slice (some ⟨g, o, none⟩) (n + 1) (c + 2)) := h.cell 0
  have c1 : w.cell? ⟨Cb, 1, none⟩ = some (.bool false) := h.cell 1
  have HH := hid h
  have HZ := hid hz
  have HG := hid hg
  have CV : ∀ W, W.cell? ⟨g, o, none⟩ = some (.int .u8 0) → (convert 81 9 (.slice (some ⟨g, o, none⟩) 1 (c + 2))).run Tryz.prog W = .ok (.string ⟨#[0]⟩) W := fun W hW => conv_noughts W g o 1 _ (fun j hj => by
    obtain rfl : j = 0 := by omega
    exact hW)
  have HCV := hid CV
  clear CV h hz
  go_enter Tryz.func95, Tryz.ntmps95
  go_wp2_with fail
  go_loopw [3] (fun k wr => k = .int .i64 0 ∧ w = wr) (fun _ _ => 1)
  case atStart => exact ⟨rfl, rfl⟩
  case round =>
    obtain ⟨rfl, rfl⟩ := hrel
    have hz := HZ.out
    go_wp2_with fail
    go_loopw [4, 5] (fun z i wr => z = .int .u64 0 ∧ (∃ k : Int, i = .int .i64 k ∧ (k = 0 ∨ k = -1)) ∧ w = wr) (fun _ i _ => (intOf i + 1).toNat)
    case atStart => exact ⟨rfl, ⟨0, rfl, .inl rfl⟩, rfl⟩
    case round =>
      obtain ⟨rfl, ⟨k, rfl, rfl | rfl⟩, rfl⟩ := hrel
      · go_wp2_with fail
        go_roundw
        case rel => exact ⟨by first | rfl | decide | kernel_rfl, ⟨-1, rfl, .inr (by simp)⟩, by first | rfl | trivial⟩
        case measure => simp [intOf]
      · go_wp2_with fail
        -- REGION int
        have KX : Hid (Blk w.drew Cb 194 [.slice (some ⟨g, o, none⟩) (n + 1) (c + 2), .bool false]) := HH.out.drew
        have bd := below_drew w
        have w1 : IntKind.i64.wrap 1 = 1 := by decide
        have hcc : (1 : Int) ≤ (c : Int) + 2 := by omega
        have KEEP : Hid (∀ W, Below w.drew.heap.size w.drew W → W.cell? ⟨Cb, 0, none⟩ = some (.slice (some ⟨g, o, none⟩) (n + 1) (c + 2)) ∧ (convert 81 9 (.slice (some ⟨g, o, none⟩) 1 (c + 2))).run Tryz.prog W = .ok (.string ⟨#[0]⟩) W) := fun W hW => ⟨(KX.out.below hW KX.out.lt).cell 0, HCV.out W ((World.cell?_of_block (hW.block _ HG.out)).trans HZ.out)⟩
        refine wp_region_held_drew (S := fun W => W.cell? ⟨Cb, 0, none⟩ = some (.slice (some ⟨g, o, none⟩) (n + 1) (c + 2)) ∧ (convert 81 9 (.slice (some ⟨g, o, none⟩) 1 (c + 2))).run Tryz.prog W = .ok (.string ⟨#[0]⟩) W) (by kernel_rfl) (KEEP.out w.drew (Below.refl _ _)) (fun hHeld => ?_)
        generalize World.drew w = x0 at *
        refine wpAnyH_take (i := 0) (oi := { dst := some 74, op := Op.move (Operand.tmp 6), type := 3, pos := "leb.go:77", after := #[], guard := none }) (v := ?_) rfl (by kernel_rfl) (by kernel_rfl) (by kernel_rfl) (fun _ _ _ h => h) (Or.inl ⟨by rfl, ?_⟩) hHeld ?_
        rotate_left
        · (intro W1 hSw; (try dsimp only at hSw); go_simp; first | done | (with_reducible rfl))
        try simp only [Act.put, List.setIfInBounds_toArray, List.set_cons_zero, List.set_cons_succ]
        refine wpAnyH_take (i := 3) (oi := { dst := some 77, op := Op.move (Operand.tmp 0), type := 192, pos := "leb.go:77", after := #[], guard := none }) (v := ?_) rfl (by kernel_rfl) (by kernel_rfl) (by kernel_rfl) (fun _ _ _ h => h) (Or.inl ⟨by rfl, ?_⟩) hHeld ?_
        rotate_left
        · (intro W1 hSw; (try dsimp only at hSw); go_simp; first | done | (with_reducible rfl))
        try simp only [Act.put, List.setIfInBounds_toArray, List.set_cons_zero, List.set_cons_succ]
        refine wpAnyH_take (i := 4) (oi := { dst := some 78, op := Op.nilCheck (Operand.tmp 77), type := 0, pos := "leb.go:77", after := #[{ on := 3, ground := Ground.data }], guard := none }) (v := ?_) rfl (by kernel_rfl) (by kernel_rfl) (by kernel_rfl) (fun _ _ _ h => h) (Or.inl ⟨by rfl, ?_⟩) hHeld ?_
        rotate_left
        · (intro W1 hSw; (try dsimp only at hSw); go_simp; first | done | (with_reducible rfl))
        try simp only [Act.put, List.setIfInBounds_toArray, List.set_cons_zero, List.set_cons_succ]
        refine wpAnyH_take (i := 5) (oi := { dst := some 79, op := Op.fieldAddr 194 (Operand.tmp 78) 0, type := 0, pos := "leb.go:77", after := #[{ on := 4, ground := Ground.data }], guard := none }) (v := ?_) rfl (by kernel_rfl) (by kernel_rfl) (by kernel_rfl) (fun _ _ _ h => h) (Or.inl ⟨by rfl, ?_⟩) hHeld ?_
        rotate_left
        · (intro W1 hSw; (try dsimp only at hSw); go_simp; first | done | (with_reducible rfl))
        try simp only [Act.put, List.setIfInBounds_toArray, List.set_cons_zero, List.set_cons_succ]
        refine wpAnyH_take (i := 6) (oi := { dst := some 80, op := Op.load 81 (Operand.tmp 79), type := 81, pos := "leb.go:77", after := #[{ on := 5, ground := Ground.data }], guard := none }) (v := ?_) rfl (by kernel_rfl) (by kernel_rfl) (by kernel_rfl) (fun _ _ _ h => h) (Or.inl ⟨by rfl, ?_⟩) hHeld ?_
        rotate_left
        · (intro W1 hSw; (try dsimp only at hSw); go_simp; first | done | (with_reducible rfl))
        try simp only [Act.put, List.setIfInBounds_toArray, List.set_cons_zero, List.set_cons_succ]
        refine wpAnyH_take (i := 7) (oi := { dst := some 81, op := Op.move (Operand.tmp 3), type := 3, pos := "leb.go:77", after := #[], guard := none }) (v := ?_) rfl (by kernel_rfl) (by kernel_rfl) (by kernel_rfl) (fun _ _ _ h => h) (Or.inl ⟨by rfl, ?_⟩) hHeld ?_
        rotate_left
        · (intro W1 hSw; (try dsimp only at hSw); go_simp; first | done | (with_reducible rfl))
        try simp only [Act.put, List.setIfInBounds_toArray, List.set_cons_zero, List.set_cons_succ]
        refine wpAnyH_take (i := 8) (oi := { dst := some 82, op := Op.binOp BinOp.add 3 (Operand.tmp 81) (Operand.const (Value.int IntKind.i64 1)) 3, type := 3, pos := "leb.go:77", after := #[{ on := 7, ground := Ground.data }], guard := none }) (v := ?_) rfl (by kernel_rfl) (by kernel_rfl) (by kernel_rfl) (fun _ _ _ h => h) (Or.inl ⟨by rfl, ?_⟩) hHeld ?_
        rotate_left
        · (intro W1 hSw; (try dsimp only at hSw); go_simp; first | done | (with_reducible rfl))
        try simp only [Act.put, List.setIfInBounds_toArray, List.set_cons_zero, List.set_cons_succ]
        refine wpAnyH_take (i := 9) (oi := { dst := some 83, op := Op.slice 81 (Operand.tmp 80) none (some (Operand.tmp 82)) none, type := 81, pos := "leb.go:77", after := #[{ on := 6, ground := Ground.data }, { on := 8, ground := Ground.data }], guard := none }) (v := ?_) rfl (by kernel_rfl) (by kernel_rfl) (by kernel_rfl) (fun _ _ _ h => h) (Or.inl ⟨by rfl, ?_⟩) hHeld ?_
        rotate_left
        · (intro W1 hSw; (try dsimp only at hSw); go_simp; first | done | (with_reducible rfl))
        try simp only [Act.put, List.setIfInBounds_toArray, List.set_cons_zero, List.set_cons_succ]
        refine wpAnyH_take (i := 10) (oi := { dst := some 84, op := Op.convert 81 9 (Operand.tmp 83), type := 9, pos := "leb.go:77", after := #[{ on := 9, ground := Ground.data }], guard := none }) (v := ?_) rfl (by kernel_rfl) (by kernel_rfl) (by kernel_rfl) (fun _ _ _ h => h) (Or.inl ⟨by rfl, ?_⟩) hHeld ?_
        rotate_left
        · (intro W1 hSw; (try dsimp only at hSw); go_simp; first | done | (with_reducible rfl))
        try simp only [Act.put, List.setIfInBounds_toArray, List.set_cons_zero, List.set_cons_succ]
        refine wpAnyH_ready (rs := [1]) (by kernel_rfl) (by simp) ?_
        refine AllReadyH.cons (o := { dst := some 75, op := Op.call { callee := Callee.value (Operand.func 165), args := #[Operand.tmp 74], argTypes := #[3] }, type := 81, pos := "leb.go:77", after := #[{ on := 0, ground := Ground.data }], guard := none }) rfl (fun K hK => ?_) AllReadyH.nil
        rw [if_pos (by rfl)]
        go_simp
        go_at_call 165
        refine (ref_int_zero x0).mono ?_
        rintro e x1 ⟨g1, cap1, rfl, e1, b1⟩
        have HB1 := hid b1
        have HE1 := hid e1
        clear e1 b1
        refine hK.out _ _ (KEEP.out _ HB1.out) (fun hHeld => ?_)
        clear hK K
        try simp only [Act.put, List.setIfInBounds_toArray, List.set_cons_zero, List.set_cons_succ]
        refine wpAnyH_ready (rs := [2]) (by kernel_rfl) (by simp) ?_
        refine AllReadyH.cons (o := { dst := some 76, op := Op.convert 81 9 (Operand.tmp 75), type := 9, pos := "leb.go:77", after := #[{ on := 1, ground := Ground.data }], guard := none }) rfl (fun K hK => ?_) AllReadyH.nil
        rw [if_pos (by rfl)]
        have cv : (convert 81 9 (.slice (some ⟨g1, 0, none⟩) 1 cap1)).run Tryz.prog x1 = .ok (.string ⟨#[0]⟩) x1 := conv_noughts x1 g1 0 1 cap1 (fun j hj => by
          obtain rfl : j = 0 := by omega
          exact HE1.out)
        go_simp
        refine hK.out _ _ (KEEP.out _ HB1.out) (fun hHeld => ?_)
        clear cv
        clear hK K
        try simp only [Act.put, List.setIfInBounds_toArray, List.set_cons_zero, List.set_cons_succ]
        refine wpAnyH_take (i := 11) (oi := { dst := some 85, op := Op.binOp BinOp.neq 9 (Operand.tmp 76) (Operand.tmp 84) 9, type := 4, pos := "leb.go:77", after := #[{ on := 2, ground := Ground.data }, { on := 10, ground := Ground.data }], guard := none }) (v := ?_) rfl (by kernel_rfl) (by kernel_rfl) (by kernel_rfl) (fun _ _ _ h => h) (Or.inl ⟨by rfl, ?_⟩) hHeld ?_
        rotate_left
        · (intro W1 hSw; (try dsimp only at hSw); go_simp; first | done | (with_reducible rfl))
        try simp only [Act.put, List.setIfInBounds_toArray, List.set_cons_zero, List.set_cons_succ]
        refine wpAnyH_done (by kernel_rfl) ?_ _
        have k0 := hHeld.1
        have KB := hid (KX.out.below HB1.out KX.out.lt)
        have kf := KB.out.frozen 0
        have kl := KB.out.lt
        clear hHeld KEEP
        go_wp2_with fail
        go_ret
        exact ⟨rfl, KB.out.set_ 0 _, ((Fr.of_below (S := [Cb]) bd (Nat.le_refl _)).step HB1.out).setCell (.inl (by simp)) _⟩
        -- END REGION int
end Go.Proofs.YtdfkdgnhpdgphaaGreatDoor

/-
  The reference's drum: padded, New, Read; over noughts.
-/
namespace Go.Proofs.YtdfkdgnhpdgphaaGreatDoor
open Go.RowKit Go.Proofs.Lig

/-- A sector of noughts, as a string. -/
def nul64 : ByteArray := ⟨(List.replicate 64 (0 : UInt8)).toArray⟩
set_option maxRecDepth 100000 in
theorem size_u8' : (Tryz.prog.info? 5).map (·.size) = some 1 := by kernel_rfl
theorem made64 : madeCells (Value.int IntKind.u8 0).cells 64 = (List.replicate 64 (Value.int .u8 0)).toArray := by
  apply Array.ext_getElem?
  intro i
  simp only [madeCells, Value.cells, List.getElem?_toArray, Array.getElem?_map]
  by_cases hi : i < 64
  · rw [Array.getElem?_range, if_pos hi, List.getElem?_replicate, if_pos hi]
    simp [Nat.mod_one]
  · rw [Array.getElem?_range, if_neg hi, List.getElem?_replicate, if_neg hi]
    rfl
set_option maxRecDepth 100000 in
theorem make_bytes64 (w : World) : (Instr.makeSlice 81 (.int .i64 64) (.int .i64 64)).run Tryz.prog w = .ok (.slice (some ⟨w.heap.size, 0, none⟩) 64 64) (w.alloc (.cells (List.replicate 64 (.int .u8 0)).toArray 5)) := by
  obtain ⟨i0, hi0, hz0, hz1, hz2⟩ := info_parts info_u8
  have := run_make (P := Tryz.prog) w 81 5 i0 _ Tryz.underlying81 hi0 hz0 .i64 .i64 64 64 (by omega) (Int.le_refl _) (by rw [hz2]; decide) (by omega)
  rw [this]
  rw [hz1, ← made64]
  rfl
set_option maxRecDepth 100000 in
theorem ref_padded (w : World) : Calls Tryz.prog 49 #[.slice none 0 0] w fun e w' => e = .returned (.string nul64) ∧ Below w.heap.size w w' := by
  have hmk := make_bytes64 w
  have K1 := Blk.new w 5 (List.replicate 64 (.int .u8 0))
  have B1 := hid (below_alloc w (.cells (List.replicate 64 (.int .u8 0)).toArray 5))
  have hcv : (convert 81 9 (.slice (some ⟨w.heap.size, 0, none⟩) 64 64)).run Tryz.prog (w.alloc (.cells (List.replicate 64 (.int .u8 0)).toArray 5)) = .ok (.string nul64) (w.alloc (.cells (List.replicate 64 (.int .u8 0)).toArray 5)) := conv_noughts (w.alloc (.cells (List.replicate 64 (.int .u8 0)).toArray 5)) w.heap.size 0 64 64 (fun j hj => by rw [K1.cell, Nat.zero_add, List.getElem?_replicate, if_pos hj])
  have hcp := run_copy_none (P := Tryz.prog) (w.alloc (.cells (List.replicate 64 (.int .u8 0)).toArray 5)) 81 81 3 5 (some ⟨w.heap.size, 0, none⟩) none 64 64 0 0 Tryz.underlying81 size_u8' (by rfl)
  generalize hz : (List.replicate 64 (Value.int .u8 0)).toArray = zs at *
  clear hz K1
  go_enter Tryz.func49, Tryz.ntmps49
  go_wp2_with fail
  go_ret
  exact ⟨rfl, B1.out⟩
set_option maxRecDepth 100000 in
theorem info_str : (Tryz.prog.info? 9).map (fun i => (i.zero, i.size, i.bytes)) = some (some (.string ⟨#[]⟩), 1, 16) := by kernel_rfl
/-- Whence a row is appended. -/
theorem own_src {w : World} {base : Nat} {e : TypeId} {A : Option Addr} {n cap : Nat} {xs : List Value} (h : w.ownsRow base e 1 (.slice A n cap) n xs) : (A = none → n = 0) ∧ ∀ ad, A = some ad → ∀ j u, xs[j]? = some u → w.cell? (ad.add j) = some u := by
  rcases h.2 with ⟨hv, h0⟩ | ⟨g, cap', cur, hv, _, hh, r⟩
  · injection hv with e1 _ e3
    subst e1 e3
    exact ⟨fun _ => h0, fun ad had => by cases had⟩
  · injection hv with e1 _ e3
    subst e1 e3
    refine ⟨fun hq => (by cases hq), fun ad had => ?_⟩
    cases had
    exact h.cells (g := g) rfl
/-- The reference's drum: its sectors. -/
def rdCells (v : Value) (A : Option Addr) (k cap : Nat) : List Value := [v, .slice A k cap, .slice none 0 0, .int .i64 (-1), .bool false]
set_option maxHeartbeats 2000000 in
set_option maxRecDepth 100000 in
theorem ref_new (w : World) (n : Nat) (hn : n ≤ 200) : Calls Tryz.prog 19 #[.int .i64 (n : Int)] w fun e w' => ∃ D v A cap, e = .returned (.pointer (some ⟨D, 0, none⟩)) ∧ Blk w' D 135 (rdCells v A n cap) ∧ w'.ownsRow w.heap.size 9 1 (.slice A n cap) n (List.replicate n (.string nul64)) ∧ Below w.heap.size w w' := by
  obtain ⟨i0, hi0, hz0, hz1, hz2⟩ := info_parts info_str
  have hpos1 : 0 < 1 := by omega
  have K1 := Blk.new w 135 (rdCells (.slice none 0 0) none 0 0)
  have B1 := below_alloc w (.cells (rdCells (.slice none 0 0) none 0 0).toArray 135)
  have HK1 := hid K1
  have HB1 := hid B1
  have HN := hid hn
  clear K1 B1
  go_enter Tryz.func19, Tryz.ntmps19
  go_wp2_with fail
  go_loopw [4] (fun i wr => ∃ (k : Nat) (A : Option Addr) (cap : Nat), i = .int .i64 (k : Int) ∧ k ≤ n ∧ Hid (Blk wr w.heap.size 135 (rdCells (.slice none 0 0) A k cap)) ∧ Hid (wr.ownsRow w.heap.size 9 1 (.slice A k cap) k (List.replicate k (.string nul64))) ∧ Hid (Below w.heap.size w wr)) (fun i _ => ((n : Int) - intOf i).toNat)
  case atStart => exact ⟨0, none, 0, rfl, by omega, HK1, World.ownsRow_nil _ _ _ _, HB1⟩
  case round =>
    obtain ⟨k, A, cap, rfl, hk, HKD, HOW, HBW⟩ := hrel
    by_cases hkn : k = n
    · subst hkn
      clear hk
      have c1 : (wr.alloc (.cells #[] 9)).cell? ⟨w.heap.size, 1, none⟩ = some (.slice A k cap) := (HKD.out.alloc _).cell 1
      have OE := hid (own_empty1 wr w.heap.size HBW.out.size 9 1)
      have OA : Hid ((wr.alloc (.cells #[] 9)).ownsRow w.heap.size 9 1 (.slice A k cap) k (List.replicate k (.string nul64))) := HOW.out.alloc _
      have HSRC := hid (own_src OA.out)
      have HBA := hid (HBW.out.alloc HBW.out.size (.cells #[] 9))
      have HKA := hid (HKD.out.alloc (.cells #[] 9))
      have HLT : Hid (w.heap.size < wr.heap.size) := HKD.out.lt
      generalize hwa : wr.alloc (.cells #[] 9) = wa at *
      have HSA : Hid (w.heap.size ≤ wa.heap.size) := HBA.out.size
      go_wp2_with (first
        | (at_builtin
           refine wpList_append_all (by rfl) _ _ _ (by rfl) w.heap.size 9 i0 _ 1 16 Tryz.underlying32 hi0 hz0 hz1 hz2 rfl (by omega) (some ⟨wr.heap.size, 0, none⟩) 0 0 [] (by first | rfl | simp [Act.eval]) OE.out A k cap (List.replicate k (.string nul64)) (by first | rfl | simp [Act.eval]) (by simp) HSRC.out.1 HSRC.out.2 (fun u hu => by rw [List.eq_of_mem_replicate hu]; rfl) (by unfold maxLen; have := HN.out; omega) (by have := HN.out; omega) HSA.out ?_
           intro A1 cap1 w1 hown1 hgrow1 hat1
           have K1 := hid (HKA.out.grown hgrow1 (by have := HLT.out; simp [Value.ownBlock]; omega))
           have f0 := K1.out.frozen 0
           have g0 : w1.cell? ⟨w.heap.size, 0, none⟩ = some (.slice none 0 0) := K1.out.cell 0
           have l0 := K1.out.lt))
      go_ret
      have FS : Fr [wr.heap.size] wa w1 := (Fr.refl _ wa).grown hgrow1 (fun q hq => by
        simp [Value.ownBlock] at hq
        simp [hq])
      have OB := own_fr OA.out FS (fun q hq => by
        have := own_lt HOW.out hq
        simp
        omega)
      refine ⟨w.heap.size, _, A, cap, rfl, K1.out.set_ 0 _, own_far OB (own_ne OB K1.out (by decide)) _, ?_⟩
      exact (HBA.out.trans (grown_below OE.out HSA.out hgrow1)).setCell (Nat.le_refl _) _
    · have h1 : (k : Int) < (n : Int) := by omega
      have h2 : (k : Int) < 200 := by have := HN.out; omega
      have HKN : Hid (k < n) := by show k < n; omega
      have KD0 : Hid (Blk wr.drew w.heap.size 135 (rdCells (.slice none 0 0) A k cap)) := HKD.out.drew
      have OW0 : Hid (wr.drew.ownsRow w.heap.size 9 1 (.slice A k cap) k (List.replicate k (.string nul64))) := own_tfr (ts := []) HOW.out (.of_below (below_drew wr)) (by simp)
      have HSX : Hid (∀ W, Below wr.drew.heap.size wr.drew W → w.heap.size ≤ W.heap.size) := fun W hW => Nat.le_trans HBW.out.size hW.size
      have HML : Hid (k + 1 ≤ maxLen) := by show k + 1 ≤ maxLen; have := HN.out; unfold maxLen; omega
      have HBY : Hid ((k + 1) * 16 ≤ 140737488355328) := by show (k + 1) * 16 ≤ _; have := HN.out; omega
      have FIN : Hid (∀ (x2 x7 : World) (A7 : Option Addr) (cap7 : Nat), Below wr.drew.heap.size wr.drew x2 → x2.ownsRow w.heap.size 9 1 (.slice A k cap) k (List.replicate k (.string nul64)) → x7.ownsRow w.heap.size 9 1 (.slice A7 (k + 1) cap7) (k + 1) (List.replicate k (.string nul64) ++ [.string nul64]) → x2.grownBy x7 (Value.slice A k cap).ownBlock → Blk x7 w.heap.size 135 (rdCells (.slice none 0 0) A k cap) →
          ∃ (k' : Nat) (A' : Option Addr) (cap' : Nat), Value.int .i64 ((k : Int) + 1) = .int .i64 (k' : Int) ∧ k' ≤ n ∧ Hid (Blk (x7.setCell ⟨w.heap.size, 1, none⟩ (.slice A7 (k + 1) cap7)) w.heap.size 135 (rdCells (.slice none 0 0) A' k' cap')) ∧ Hid ((x7.setCell ⟨w.heap.size, 1, none⟩ (.slice A7 (k + 1) cap7)).ownsRow w.heap.size 9 1 (.slice A' k' cap') k' (List.replicate k' (.string nul64))) ∧ Hid (Below w.heap.size w (x7.setCell ⟨w.heap.size, 1, none⟩ (.slice A7 (k + 1) cap7)))) := fun x2 x7 A7 cap7 b2 o2 o7 g7 k7 => by
        refine ⟨k + 1, A7, cap7, by simp, HKN.out, k7.set_ 1 _, own_far (by rw [List.replicate_succ']; exact o7) (own_ne o7 k7 (by decide)) _, ?_⟩
        exact (((bdrewN HBW.out 1).trans (b2.mono HBW.out.size)).trans (grown_below o2 (Nat.le_trans HBW.out.size b2.size) g7)).setCell (Nat.le_refl _) _
      clear hkn hk
      go_wp2_with fail
      -- REGION new
      refine wp_region_held_drew (S := fun W => True) (by kernel_rfl) trivial (fun hHeld => ?_)
      generalize World.drew wr = x0 at *
      refine wpAnyH_take (i := 0) (oi := { dst := some 16, op := Op.move (Operand.tmp 3), type := 68, pos := "drum.go:32", after := #[], guard := none }) (v := ?_) rfl (by kernel_rfl) (by kernel_rfl) (by kernel_rfl) (fun _ _ _ h => h) (Or.inl ⟨by rfl, ?_⟩) hHeld ?_
      rotate_left
      · (intro W1 hSw; (try dsimp only at hSw); go_simp; first | done | (with_reducible rfl))
      try simp only [Act.put, List.setIfInBounds_toArray, List.set_cons_zero, List.set_cons_succ]
      refine wpAnyH_take (i := 1) (oi := { dst := some 17, op := Op.move (Operand.tmp 3), type := 68, pos := "drum.go:32", after := #[], guard := none }) (v := ?_) rfl (by kernel_rfl) (by kernel_rfl) (by kernel_rfl) (fun _ _ _ h => h) (Or.inl ⟨by rfl, ?_⟩) hHeld ?_
      rotate_left
      · (intro W1 hSw; (try dsimp only at hSw); go_simp; first | done | (with_reducible rfl))
      try simp only [Act.put, List.setIfInBounds_toArray, List.set_cons_zero, List.set_cons_succ]
      refine wpAnyH_take (i := 2) (oi := { dst := some 18, op := Op.nilCheck (Operand.tmp 17), type := 0, pos := "drum.go:32", after := #[{ on := 1, ground := Ground.data }], guard := none }) (v := ?_) rfl (by kernel_rfl) (by kernel_rfl) (by kernel_rfl) (fun _ _ _ h => h) (Or.inl ⟨by rfl, ?_⟩) hHeld ?_
      rotate_left
      · (intro W1 hSw; (try dsimp only at hSw); go_simp; first | done | (with_reducible rfl))
      try simp only [Act.put, List.setIfInBounds_toArray, List.set_cons_zero, List.set_cons_succ]
      refine wpAnyH_take (i := 3) (oi := { dst := some 19, op := Op.fieldAddr 135 (Operand.tmp 18) 1, type := 0, pos := "drum.go:32", after := #[{ on := 2, ground := Ground.data }], guard := none }) (v := ?_) rfl (by kernel_rfl) (by kernel_rfl) (by kernel_rfl) (fun _ _ _ h => h) (Or.inl ⟨by rfl, ?_⟩) hHeld ?_
      rotate_left
      · (intro W1 hSw; (try dsimp only at hSw); go_simp; first | done | (with_reducible rfl))
      try simp only [Act.put, List.setIfInBounds_toArray, List.set_cons_zero, List.set_cons_succ]
      refine wpAnyH_ready (rs := [4, 5]) (by kernel_rfl) (by simp) ?_
      refine AllReadyH.cons (o := { dst := some 20, op := Op.load 32 (Operand.tmp 19), type := 32, pos := "drum.go:32", after := #[{ on := 3, ground := Ground.data }], guard := none }) rfl (fun K hK => ?_) (AllReadyH.cons (o := { dst := some 21, op := Op.call { callee := Callee.value (Operand.func 49), args := #[Operand.const (Value.slice none 0 0)], argTypes := #[81] }, type := 9, pos := "drum.go:32", after := #[], guard := none }) rfl (fun K hK => ?_) AllReadyH.nil)
      · rw [if_pos (by rfl)]
        have c1 : x0.cell? ⟨w.heap.size, 1, none⟩ = some (.slice A k cap) := KD0.out.cell 1
        go_simp
        refine hK.out _ _ trivial (fun hHeld => ?_)
        clear c1
        clear hK K
        try simp only [Act.put, List.setIfInBounds_toArray, List.set_cons_zero, List.set_cons_succ]
        refine wpAnyH_ready (rs := [5]) (by kernel_rfl) (by simp) ?_
        refine AllReadyH.cons (o := { dst := some 21, op := Op.call { callee := Callee.value (Operand.func 49), args := #[Operand.const (Value.slice none 0 0)], argTypes := #[81] }, type := 9, pos := "drum.go:32", after := #[], guard := none }) rfl (fun K hK => ?_) AllReadyH.nil
        rw [if_pos (by rfl)]
        go_simp
        go_at_call 49
        refine (ref_padded x0).mono ?_
        rintro e x1 ⟨rfl, b1⟩
        have HB1 := hid b1
        have KD1 := hid (KD0.out.below b1 KD0.out.lt)
        have OW1 := hid (own_tfr (ts := []) OW0.out (.of_below b1) (by simp))
        clear b1
        refine hK.out _ _ trivial (fun hHeld => ?_)
        clear hK K
        try simp only [Act.put, List.setIfInBounds_toArray, List.set_cons_zero, List.set_cons_succ]
        refine wpAnyH_ready (rs := [6]) (by kernel_rfl) (by simp) ?_
        refine AllReadyH.cons (o := { dst := some 22, op := Op.buildSlice 32 1 #[(0, Operand.tmp 21)], type := 32, pos := "drum.go:32", after := #[{ on := 5, ground := Ground.data }], guard := none }) rfl (fun K hK => ?_) AllReadyH.nil
        rw [if_pos (by rfl)]
        go_simp
        have b2 := below_alloc x1 (.cells #[.string nul64] 9)
        have HB2 := hid (bstep0 HB1.out b2)
        have KD2 := hid (KD1.out.below b2 KD1.out.lt)
        have OW2 := hid (own_tfr (ts := []) OW1.out (.of_below b2) (by simp))
        have NW2 := hid (Blk.new x1 9 [.string nul64])
        have L2 := hid (World.size_alloc x1 (.cells #[.string nul64] 9))
        refine hK.out _ _ trivial (fun hHeld => ?_)
        generalize World.alloc x1 (.cells #[.string nul64] 9) = x2 at *
        clear b2
        clear hK K
        try simp only [Act.put, List.setIfInBounds_toArray, List.set_cons_zero, List.set_cons_succ]
        refine wpAnyH_ready (rs := [7]) (by kernel_rfl) (by simp) ?_
        refine AllReadyH.cons (o := { dst := some 23, op := Op.call { callee := Callee.builtin Builtin.append, args := #[Operand.tmp 20, Operand.tmp 22], argTypes := #[32, 32] }, type := 32, pos := "drum.go:32", after := #[{ on := 4, ground := Ground.data }, { on := 6, ground := Ground.data }, { on := 5, ground := Ground.chain }], guard := none }) rfl (fun K hK => ?_) AllReadyH.nil
        refine step_append_all rfl _ _ _ rfl w.heap.size 9 i0 _ 1 16 Tryz.underlying32 hi0 hz0 hz1 hz2 rfl hpos1 A cap k (List.replicate k (.string nul64)) rfl OW2.out (some ⟨x1.heap.size, 0, none⟩) 1 1 [.string nul64] rfl rfl (by simp) (fun ad had => by cases had; exact World.news_of_block NW2.out) (by simp [Value.oneCell']) HML.out HBY.out (HSX.out _ HB2.out) ?_
        intro A7 cap7 x7 hown7 hgrow7 hat7
        have KD7 := hid (KD2.out.grown hgrow7 (own_ne OW2.out KD2.out (by decide)))
        have c7 : x7.cell? ⟨w.heap.size, 1, none⟩ = some (.slice A k cap) := KD7.out.cell 1
        have f7 := KD7.out.frozen 1
        have l7 := KD7.out.lt
        refine hK.out _ _ trivial (fun hHeld => ?_)
        clear hK K
        try simp only [Act.put, List.setIfInBounds_toArray, List.set_cons_zero, List.set_cons_succ]
        refine wpAnyH_take (i := 8) (oi := { dst := some 24, op := Op.nilCheck (Operand.tmp 16), type := 0, pos := "drum.go:32", after := #[{ on := 0, ground := Ground.data }, { on := 0, ground := Ground.phase }, { on := 1, ground := Ground.phase }, { on := 2, ground := Ground.phase }, { on := 3, ground := Ground.phase }, { on := 4, ground := Ground.phase }, { on := 5, ground := Ground.phase }, { on := 6, ground := Ground.phase }, { on := 7, ground := Ground.phase }], guard := none }) (v := ?_) rfl (by kernel_rfl) (by kernel_rfl) (by kernel_rfl) (fun _ _ _ h => h) (Or.inl ⟨by rfl, ?_⟩) hHeld ?_
        rotate_left
        · (intro W1 hSw; (try dsimp only at hSw); go_simp; first | done | (with_reducible rfl))
        try simp only [Act.put, List.setIfInBounds_toArray, List.set_cons_zero, List.set_cons_succ]
        refine wpAnyH_take (i := 9) (oi := { dst := some 25, op := Op.fieldAddr 135 (Operand.tmp 24) 1, type := 0, pos := "drum.go:32", after := #[{ on := 8, ground := Ground.data }, { on := 0, ground := Ground.phase }, { on := 1, ground := Ground.phase }, { on := 2, ground := Ground.phase }, { on := 3, ground := Ground.phase }, { on := 4, ground := Ground.phase }, { on := 5, ground := Ground.phase }, { on := 6, ground := Ground.phase }, { on := 7, ground := Ground.phase }], guard := none }) (v := ?_) rfl (by kernel_rfl) (by kernel_rfl) (by kernel_rfl) (fun _ _ _ h => h) (Or.inl ⟨by rfl, ?_⟩) hHeld ?_
        rotate_left
        · (intro W1 hSw; (try dsimp only at hSw); go_simp; first | done | (with_reducible rfl))
        try simp only [Act.put, List.setIfInBounds_toArray, List.set_cons_zero, List.set_cons_succ]
        refine wpAnyH_ready (rs := [10]) (by kernel_rfl) (by simp) ?_
        refine AllReadyH.cons (o := { dst := none, op := Op.store 32 (Operand.tmp 25) (Operand.tmp 23), type := 0, pos := "drum.go:32", after := #[{ on := 9, ground := Ground.data }, { on := 7, ground := Ground.data }, { on := 7, ground := Ground.chain }, { on := 0, ground := Ground.phase }, { on := 1, ground := Ground.phase }, { on := 2, ground := Ground.phase }, { on := 3, ground := Ground.phase }, { on := 4, ground := Ground.phase }, { on := 5, ground := Ground.phase }, { on := 6, ground := Ground.phase }, { on := 7, ground := Ground.phase }], guard := none }) rfl (fun K hK => ?_) AllReadyH.nil
        rw [if_pos (by rfl)]
        go_simp
        refine hK.out _ _ trivial (fun hHeld => ?_)
        clear hK K
        try simp only [Act.put, List.setIfInBounds_toArray, List.set_cons_zero, List.set_cons_succ]
        refine wpAnyH_done (by kernel_rfl) ?_ _
        go_wp2_with fail
        go_roundw
        case rel => exact FIN.out _ _ _ _ HB2.out OW2.out hown7 hgrow7 KD7.out
        case measure => simp [intOf]; omega
      · rw [if_pos (by rfl)]
        go_simp
        go_at_call 49
        refine (ref_padded x0).mono ?_
        rintro e x1 ⟨rfl, b1⟩
        have HB1 := hid b1
        have KD1 := hid (KD0.out.below b1 KD0.out.lt)
        have OW1 := hid (own_tfr (ts := []) OW0.out (.of_below b1) (by simp))
        clear b1
        refine hK.out _ _ trivial (fun hHeld => ?_)
        clear hK K
        try simp only [Act.put, List.setIfInBounds_toArray, List.set_cons_zero, List.set_cons_succ]
        refine wpAnyH_ready (rs := [4, 6]) (by kernel_rfl) (by simp) ?_
        refine AllReadyH.cons (o := { dst := some 20, op := Op.load 32 (Operand.tmp 19), type := 32, pos := "drum.go:32", after := #[{ on := 3, ground := Ground.data }], guard := none }) rfl (fun K hK => ?_) (AllReadyH.cons (o := { dst := some 22, op := Op.buildSlice 32 1 #[(0, Operand.tmp 21)], type := 32, pos := "drum.go:32", after := #[{ on := 5, ground := Ground.data }], guard := none }) rfl (fun K hK => ?_) AllReadyH.nil)
        · rw [if_pos (by rfl)]
          have c1 : x1.cell? ⟨w.heap.size, 1, none⟩ = some (.slice A k cap) := KD1.out.cell 1
          go_simp
          refine hK.out _ _ trivial (fun hHeld => ?_)
          clear c1
          clear hK K
          try simp only [Act.put, List.setIfInBounds_toArray, List.set_cons_zero, List.set_cons_succ]
          refine wpAnyH_ready (rs := [6]) (by kernel_rfl) (by simp) ?_
          refine AllReadyH.cons (o := { dst := some 22, op := Op.buildSlice 32 1 #[(0, Operand.tmp 21)], type := 32, pos := "drum.go:32", after := #[{ on := 5, ground := Ground.data }], guard := none }) rfl (fun K hK => ?_) AllReadyH.nil
          rw [if_pos (by rfl)]
          go_simp
          have b2 := below_alloc x1 (.cells #[.string nul64] 9)
          have HB2 := hid (bstep0 HB1.out b2)
          have KD2 := hid (KD1.out.below b2 KD1.out.lt)
          have OW2 := hid (own_tfr (ts := []) OW1.out (.of_below b2) (by simp))
          have NW2 := hid (Blk.new x1 9 [.string nul64])
          have L2 := hid (World.size_alloc x1 (.cells #[.string nul64] 9))
          refine hK.out _ _ trivial (fun hHeld => ?_)
          generalize World.alloc x1 (.cells #[.string nul64] 9) = x2 at *
          clear b2
          clear hK K
          try simp only [Act.put, List.setIfInBounds_toArray, List.set_cons_zero, List.set_cons_succ]
          refine wpAnyH_ready (rs := [7]) (by kernel_rfl) (by simp) ?_
          refine AllReadyH.cons (o := { dst := some 23, op := Op.call { callee := Callee.builtin Builtin.append, args := #[Operand.tmp 20, Operand.tmp 22], argTypes := #[32, 32] }, type := 32, pos := "drum.go:32", after := #[{ on := 4, ground := Ground.data }, { on := 6, ground := Ground.data }, { on := 5, ground := Ground.chain }], guard := none }) rfl (fun K hK => ?_) AllReadyH.nil
          refine step_append_all rfl _ _ _ rfl w.heap.size 9 i0 _ 1 16 Tryz.underlying32 hi0 hz0 hz1 hz2 rfl hpos1 A cap k (List.replicate k (.string nul64)) rfl OW2.out (some ⟨x1.heap.size, 0, none⟩) 1 1 [.string nul64] rfl rfl (by simp) (fun ad had => by cases had; exact World.news_of_block NW2.out) (by simp [Value.oneCell']) HML.out HBY.out (HSX.out _ HB2.out) ?_
          intro A7 cap7 x7 hown7 hgrow7 hat7
          have KD7 := hid (KD2.out.grown hgrow7 (own_ne OW2.out KD2.out (by decide)))
          have c7 : x7.cell? ⟨w.heap.size, 1, none⟩ = some (.slice A k cap) := KD7.out.cell 1
          have f7 := KD7.out.frozen 1
          have l7 := KD7.out.lt
          refine hK.out _ _ trivial (fun hHeld => ?_)
          clear hK K
          try simp only [Act.put, List.setIfInBounds_toArray, List.set_cons_zero, List.set_cons_succ]
          refine wpAnyH_take (i := 8) (oi := { dst := some 24, op := Op.nilCheck (Operand.tmp 16), type := 0, pos := "drum.go:32", after := #[{ on := 0, ground := Ground.data }, { on := 0, ground := Ground.phase }, { on := 1, ground := Ground.phase }, { on := 2, ground := Ground.phase }, { on := 3, ground := Ground.phase }, { on := 4, ground := Ground.phase }, { on := 5, ground := Ground.phase }, { on := 6, ground := Ground.phase }, { on := 7, ground := Ground.phase }], guard := none }) (v := ?_) rfl (by kernel_rfl) (by kernel_rfl) (by kernel_rfl) (fun _ _ _ h => h) (Or.inl ⟨by rfl, ?_⟩) hHeld ?_
          rotate_left
          · (intro W1 hSw; (try dsimp only at hSw); go_simp; first | done | (with_reducible rfl))
          try simp only [Act.put, List.setIfInBounds_toArray, List.set_cons_zero, List.set_cons_succ]
          refine wpAnyH_take (i := 9) (oi := { dst := some 25, op := Op.fieldAddr 135 (Operand.tmp 24) 1, type := 0, pos := "drum.go:32", after := #[{ on := 8, ground := Ground.data }, { on := 0, ground := Ground.phase }, { on := 1, ground := Ground.phase }, { on := 2, ground := Ground.phase }, { on := 3, ground := Ground.phase }, { on := 4, ground := Ground.phase }, { on := 5, ground := Ground.phase }, { on := 6, ground := Ground.phase }, { on := 7, ground := Ground.phase }], guard := none }) (v := ?_) rfl (by kernel_rfl) (by kernel_rfl) (by kernel_rfl) (fun _ _ _ h => h) (Or.inl ⟨by rfl, ?_⟩) hHeld ?_
          rotate_left
          · (intro W1 hSw; (try dsimp only at hSw); go_simp; first | done | (with_reducible rfl))
          try simp only [Act.put, List.setIfInBounds_toArray, List.set_cons_zero, List.set_cons_succ]
          refine wpAnyH_ready (rs := [10]) (by kernel_rfl) (by simp) ?_
          refine AllReadyH.cons (o := { dst := none, op := Op.store 32 (Operand.tmp 25) (Operand.tmp 23), type := 0, pos := "drum.go:32", after := #[{ on := 9, ground := Ground.data }, { on := 7, ground := Ground.data }, { on := 7, ground := Ground.chain }, { on := 0, ground := Ground.phase }, { on := 1, ground := Ground.phase }, { on := 2, ground := Ground.phase }, { on := 3, ground := Ground.phase }, { on := 4, ground := Ground.phase }, { on := 5, ground := Ground.phase }, { on := 6, ground := Ground.phase }, { on := 7, ground := Ground.phase }], guard := none }) rfl (fun K hK => ?_) AllReadyH.nil
          rw [if_pos (by rfl)]
          go_simp
          refine hK.out _ _ trivial (fun hHeld => ?_)
          clear hK K
          try simp only [Act.put, List.setIfInBounds_toArray, List.set_cons_zero, List.set_cons_succ]
          refine wpAnyH_done (by kernel_rfl) ?_ _
          go_wp2_with fail
          go_roundw
          case rel => exact FIN.out _ _ _ _ HB2.out OW2.out hown7 hgrow7 KD7.out
          case measure => simp [intOf]; omega
        · rw [if_pos (by rfl)]
          go_simp
          have b2 := below_alloc x1 (.cells #[.string nul64] 9)
          have HB2 := hid (bstep0 HB1.out b2)
          have KD2 := hid (KD1.out.below b2 KD1.out.lt)
          have OW2 := hid (own_tfr (ts := []) OW1.out (.of_below b2) (by simp))
          have NW2 := hid (Blk.new x1 9 [.string nul64])
          have L2 := hid (World.size_alloc x1 (.cells #[.string nul64] 9))
          refine hK.out _ _ trivial (fun hHeld => ?_)
          generalize World.alloc x1 (.cells #[.string nul64] 9) = x2 at *
          clear b2
          clear hK K
          try simp only [Act.put, List.setIfInBounds_toArray, List.set_cons_zero, List.set_cons_succ]
          refine wpAnyH_ready (rs := [4]) (by kernel_rfl) (by simp) ?_
          refine AllReadyH.cons (o := { dst := some 20, op := Op.load 32 (Operand.tmp 19), type := 32, pos := "drum.go:32", after := #[{ on := 3, ground := Ground.data }], guard := none }) rfl (fun K hK => ?_) AllReadyH.nil
          rw [if_pos (by rfl)]
          have c1 : x2.cell? ⟨w.heap.size, 1, none⟩ = some (.slice A k cap) := KD2.out.cell 1
          go_simp
          refine hK.out _ _ trivial (fun hHeld => ?_)
          clear c1
          clear hK K
          try simp only [Act.put, List.setIfInBounds_toArray, List.set_cons_zero, List.set_cons_succ]
          refine wpAnyH_ready (rs := [7]) (by kernel_rfl) (by simp) ?_
          refine AllReadyH.cons (o := { dst := some 23, op := Op.call { callee := Callee.builtin Builtin.append, args := #[Operand.tmp 20, Operand.tmp 22], argTypes := #[32, 32] }, type := 32, pos := "drum.go:32", after := #[{ on := 4, ground := Ground.data }, { on := 6, ground := Ground.data }, { on := 5, ground := Ground.chain }], guard := none }) rfl (fun K hK => ?_) AllReadyH.nil
          refine step_append_all rfl _ _ _ rfl w.heap.size 9 i0 _ 1 16 Tryz.underlying32 hi0 hz0 hz1 hz2 rfl hpos1 A cap k (List.replicate k (.string nul64)) rfl OW2.out (some ⟨x1.heap.size, 0, none⟩) 1 1 [.string nul64] rfl rfl (by simp) (fun ad had => by cases had; exact World.news_of_block NW2.out) (by simp [Value.oneCell']) HML.out HBY.out (HSX.out _ HB2.out) ?_
          intro A7 cap7 x7 hown7 hgrow7 hat7
          have KD7 := hid (KD2.out.grown hgrow7 (own_ne OW2.out KD2.out (by decide)))
          have c7 : x7.cell? ⟨w.heap.size, 1, none⟩ = some (.slice A k cap) := KD7.out.cell 1
          have f7 := KD7.out.frozen 1
          have l7 := KD7.out.lt
          refine hK.out _ _ trivial (fun hHeld => ?_)
          clear hK K
          try simp only [Act.put, List.setIfInBounds_toArray, List.set_cons_zero, List.set_cons_succ]
          refine wpAnyH_take (i := 8) (oi := { dst := some 24, op := Op.nilCheck (Operand.tmp 16), type := 0, pos := "drum.go:32", after := #[{ on := 0, ground := Ground.data }, { on := 0, ground := Ground.phase }, { on := 1, ground := Ground.phase }, { on := 2, ground := Ground.phase }, { on := 3, ground := Ground.phase }, { on := 4, ground := Ground.phase }, { on := 5, ground := Ground.phase }, { on := 6, ground := Ground.phase }, { on := 7, ground := Ground.phase }], guard := none }) (v := ?_) rfl (by kernel_rfl) (by kernel_rfl) (by kernel_rfl) (fun _ _ _ h => h) (Or.inl ⟨by rfl, ?_⟩) hHeld ?_
          rotate_left
          · (intro W1 hSw; (try dsimp only at hSw); go_simp; first | done | (with_reducible rfl))
          try simp only [Act.put, List.setIfInBounds_toArray, List.set_cons_zero, List.set_cons_succ]
          refine wpAnyH_take (i := 9) (oi := { dst := some 25, op := Op.fieldAddr 135 (Operand.tmp 24) 1, type := 0, pos := "drum.go:32", after := #[{ on := 8, ground := Ground.data }, { on := 0, ground := Ground.phase }, { on := 1, ground := Ground.phase }, { on := 2, ground := Ground.phase }, { on := 3, ground := Ground.phase }, { on := 4, ground := Ground.phase }, { on := 5, ground := Ground.phase }, { on := 6, ground := Ground.phase }, { on := 7, ground := Ground.phase }], guard := none }) (v := ?_) rfl (by kernel_rfl) (by kernel_rfl) (by kernel_rfl) (fun _ _ _ h => h) (Or.inl ⟨by rfl, ?_⟩) hHeld ?_
          rotate_left
          · (intro W1 hSw; (try dsimp only at hSw); go_simp; first | done | (with_reducible rfl))
          try simp only [Act.put, List.setIfInBounds_toArray, List.set_cons_zero, List.set_cons_succ]
          refine wpAnyH_ready (rs := [10]) (by kernel_rfl) (by simp) ?_
          refine AllReadyH.cons (o := { dst := none, op := Op.store 32 (Operand.tmp 25) (Operand.tmp 23), type := 0, pos := "drum.go:32", after := #[{ on := 9, ground := Ground.data }, { on := 7, ground := Ground.data }, { on := 7, ground := Ground.chain }, { on := 0, ground := Ground.phase }, { on := 1, ground := Ground.phase }, { on := 2, ground := Ground.phase }, { on := 3, ground := Ground.phase }, { on := 4, ground := Ground.phase }, { on := 5, ground := Ground.phase }, { on := 6, ground := Ground.phase }, { on := 7, ground := Ground.phase }], guard := none }) rfl (fun K hK => ?_) AllReadyH.nil
          rw [if_pos (by rfl)]
          go_simp
          refine hK.out _ _ trivial (fun hHeld => ?_)
          clear hK K
          try simp only [Act.put, List.setIfInBounds_toArray, List.set_cons_zero, List.set_cons_succ]
          refine wpAnyH_done (by kernel_rfl) ?_ _
          go_wp2_with fail
          go_roundw
          case rel => exact FIN.out _ _ _ _ HB2.out OW2.out hown7 hgrow7 KD7.out
          case measure => simp [intOf]; omega
      -- END REGION new
end Go.Proofs.YtdfkdgnhpdgphaaGreatDoor
