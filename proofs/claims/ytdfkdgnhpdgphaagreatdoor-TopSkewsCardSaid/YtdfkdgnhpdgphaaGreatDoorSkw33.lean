/-
  The log's parts that read a drum: bank, sector, headOf over noughts.
-/
import Derived.Test.YtdfkdgnhpdgphaaGreatDoorSkw3
import Derived.Test.YtdfkdgnhpdgphaaGreatDoorSkw25
import Derived.Test.YtdfkdgnhpdgphaaGreatDoorSkw32
import Derived.Test.YtdfkdgnhpdgphaaGreatDoorSkw4
import Derived.BigQuiet
import Derived.Deep.QuietTactic
namespace Go.Proofs.YtdfkdgnhpdgphaaGreatDoor
open Go.RowKit Go.Proofs.Lig
section
variable {w w' : World} {N D G M n : Nat} {good now : List Int} {wait : Value} {k : Nat} {ws : List Value}

set_option maxRecDepth 100000 in
theorem redo_bank (h : Drm w N D G M n good now wait k ws) (hn : 4 ≤ n) (hn2 : n ≤ 200) :
    Calls Tryz.prog 63 #[.pointer (some ⟨D, 0, none⟩)] w fun e w' => e = .returned (.int .i64 (((n - 2) / 2 : Nat) : Int)) ∧ w = w' := by
  have HL := hid (drum_len h)
  clear h
  go_enter Tryz.func63, Tryz.ntmps63
  go_wp2_with fail
  refine HL.out.mono ?_
  rintro e w1 ⟨rfl, rfl⟩
  go_wp2_with fail
  go_ret
  refine ⟨?_, rfl⟩
  first | rfl | (simp; omega)
set_option maxRecDepth 100000 in
theorem redo_sector (h : Drm w N D G M n good now wait k ws) (hn : 4 ≤ n) (hn2 : n ≤ 200) (a i : Nat) (ha : a ≤ 1) (hi : i < (n - 2) / 2) :
    Calls Tryz.prog 65 #[.pointer (some ⟨D, 0, none⟩), .int .i64 (a : Int), .int .i64 (i : Int)] w fun e w' => e = .returned (.int .i64 ((2 + a * ((n - 2) / 2) + i : Nat) : Int)) ∧ w = w' := by
  have HL := hid (redo_bank h hn hn2)
  clear h
  have hb : (n - 2) / 2 ≤ 100 := by omega
  generalize (n - 2) / 2 = b at *
  rcases (show a = 0 ∨ a = 1 by omega) with rfl | rfl
  all_goals
    clear hn hn2 ha
    go_enter Tryz.func65, Tryz.ntmps65
    go_wp2_with fail
    refine HL.out.mono ?_
    rintro e w1 ⟨rfl, rfl⟩
    go_wp2_with fail
    go_ret
    refine ⟨?_, rfl⟩
    first | rfl | (simp; done) | (simp; omega)
set_option maxRecDepth 100000 in
theorem size_head : (Tryz.prog.info? 149).map (·.size) = some 3 := by kernel_rfl
/-- Noughts' sectors are noughts. -/
theorem sec_noughts {n i : Nat} (hi : i < n) : sec (noughts n) i = List.replicate 64 0 := by
  unfold sec noughts
  rw [List.drop_replicate, List.take_replicate]
  congr 1
  omega
set_option maxRecDepth 100000 in
theorem conv_noughts (w : World) (g o m cap : Nat) (hc : ∀ j, j < m → w.cell? ⟨g, o + j, none⟩ = some (.int .u8 0)) : (convert 81 9 (.slice (some ⟨g, o, none⟩) m cap)).run Tryz.prog w = .ok (.string ⟨(List.replicate m (0 : UInt8)).toArray⟩) w := by
  have := run_convert_bytes_back (P := Tryz.prog) w 81 9 5 ⟨g, o, none⟩ cap (List.replicate m (0 : UInt8)) Tryz.underlying81 Tryz.underlying5 Tryz.underlying9 (fun j hj => by
    rw [Addr.add_mid, hc j (by simpa using hj)]
    simp)
  rwa [List.length_replicate] at this

set_option maxRecDepth 100000 in
theorem trimB_noughts (m : Nat) : (⟨(Lib.trimB (⟨Array.replicate m 0⟩ : ByteArray).data.toList 0).toArray⟩ : ByteArray) = ⟨#[]⟩ := by
  have : Lib.trimB (Array.replicate m (0 : UInt8)).toList 0 = [] := by
    have h1 : (List.replicate m (0 : UInt8)).dropWhile (· == 0) = [] := by
      induction m with
      | zero => rfl
      | succ m ih => rw [List.replicate_succ, List.dropWhile_cons]; simp
    unfold Lib.trimB Lib.trimRightB Lib.trimLeftB
    rw [Array.toList_replicate, List.reverse_replicate, h1]
    rfl
  rw [this]
set_option maxRecDepth 100000 in
/-- Int over a nought, the world a letter. -/
theorem cur_int0b (w : World) (Cb g o n c : Nat) (h : Blk w Cb 243 [.slice (some ⟨g, o, none⟩) (n + 1) (c + 1), .bool false]) (hnc : n ≤ c) (hc0 : 0 < c) (hc : (c : Int) ≤ 9223372036854775806) (h0 : w.cell? ⟨g, o, none⟩ = some (.int .u8 0)) (hg : g ≠ Cb) :
    Calls Tryz.prog 72 #[.pointer (some ⟨Cb, 0, none⟩)] w fun e w' => e = .returned (.int .i64 0) ∧ Blk w' Cb 243 [.slice (some ⟨g, o + 1, none⟩) n c, .bool false] ∧ Fr [Cb] w w' := by
  refine (cur_int0 w Cb g o n c h hnc hc h0 hg).mono ?_
  rintro e w' ⟨rfl, rfl⟩
  have hb := h.set_ 0 (behind g o n c)
  have e : behind g o n c = .slice (some ⟨g, o + 1, none⟩) n c := by unfold behind; rw [if_neg (by omega)]
  rw [e] at hb ⊢
  exact ⟨rfl, hb, (Fr.refl _ _).setCell (.inl (by simp)) _⟩
set_option maxRecDepth 100000 in
theorem nought_cell {w : World} {base g cap : Nat} {m : Nat} (h : BRow w base (some ⟨g, 0, none⟩) cap (List.replicate m 0)) {j : Nat} (hj : j < m) : w.cell? ⟨g, j, none⟩ = some (.int .u8 0) := by
  have := h.own.cells (g := g) rfl j (.int .u8 0) (by simp [u8s, hj])
  rwa [Addr.add_mid, Nat.zero_add] at this
set_option maxRecDepth 100000 in
theorem brow_some {w : World} {base : Nat} {A : Option Addr} {cap : Nat} {xs : List Int} (h : BRow w base A cap xs) (h0 : 0 < xs.length) : ∃ g, A = some ⟨g, 0, none⟩ ∧ base ≤ g ∧ g < w.heap.size ∧ xs.length ≤ cap ∧ cap ≤ maxLen := by
  rcases h.own.2 with ⟨_, h1⟩ | ⟨g, cap', cur, hv, hg, hh, h1, h2, _⟩
  · omega
  · injection hv with e1 _ e3
    subst e3
    exact ⟨g, e1, hg, (Array.getElem?_eq_some_iff.1 hh).1, h1, h2⟩

set_option maxHeartbeats 2000000 in
set_option maxRecDepth 100000 in
theorem redo_headOf0 (w : World) (N D G M n : Nat) (good : List Int) (wait : Value) (k : Nat) (ws : List Value) (h : Drm w N D G M n good (noughts n) wait k ws) (i : Nat) (hi : i < n) (_hn : n ≤ 200) :
    Calls Tryz.prog 141 #[.pointer (some ⟨D, 0, none⟩), .int .i64 (i : Int)] w fun e w' => e = .returned (.tuple #[.agg #[.int .i64 0, .int .i64 0, .int .i64 0], .bool false]) ∧ Below w.heap.size w w' := by
  have B0 : Below w.heap.size w (w.alloc (.cells #[.int .i64 0, .int .i64 0, .int .i64 0] 149)) := (Below.refl _ _).alloc (Nat.le_refl _) _
  have R0 := Blk.new w 149 [.int .i64 0, .int .i64 0, .int .i64 0]
  have HR := hid (drum_read (h.below B0) i hi)
  rw [sec_noughts hi] at HR
  have R0 := hid R0
  have B0 := hid B0
  clear h hi
  go_enter Tryz.func141, Tryz.ntmps141
  go_wp2_with fail
  refine HR.out.mono ?_
  rintro e w1 ⟨A1, cap1, rfl, q1, b1⟩
  obtain ⟨g1, rfl, hg1, hg1l, hc1, hm1⟩ := brow_some q1 (by simp)
  have hO := cur_open w1 _ cap1 (List.replicate 64 0) q1.toSrc (by simp)
  simp only [List.length_replicate] at hO hc1
  have HO := hid hO
  have Q1 := hid q1
  have B1 := hid b1
  have R1 : Hid (Blk w1 w.heap.size 149 [.int .i64 0, .int .i64 0, .int .i64 0]) := R0.out.below b1 (by simp)
  clear HR hO q1 b1 hg1
  go_wp2_with fail
  refine HO.out.mono ?_
  rintro e w2 ⟨Cb, A2, cap2, rfl, hCb, c2, q2, b2⟩
  obtain ⟨g, rfl, hg, hgl, hc2, hm2⟩ := brow_some q2 (by simp)
  simp only [List.length_replicate] at c2 hc2
  have hm2' : cap2 ≤ 9223372036854775807 := by unfold maxLen at hm2; omega
  obtain ⟨c, rfl⟩ : ∃ c, cap2 = c + 3 := ⟨cap2 - 3, by omega⟩
  have hne : g ≠ Cb := fun e => by
    subst e
    exact absurd rfl (own_ne q2.own c2 (by decide))
  have I1 := hid (cur_int0b w2 Cb g 0 63 (c + 2) c2 (by omega) (by omega) (by omega) (nought_cell q2 (by omega)) hne)
  have Q2 := hid q2
  have B2 := hid b2
  have HNE := hid hne
  have hgh : g ≠ w.heap.size := by have := B1.out.size; simp at this; omega
  have HGH := hid hgh
  have hsz1 := B1.out.size
  simp only [World.size_alloc] at hsz1
  have R2 : Hid (Blk w2 w.heap.size 149 [.int .i64 0, .int .i64 0, .int .i64 0]) := R1.out.below b2 (by omega)
  have hCw : Cb ≠ w.heap.size := by omega
  clear q2 b2 hne c2 HO hgh
  go_wp2_with fail
  refine I1.out.mono ?_
  rintro e w3 ⟨rfl, c3, f3⟩
  have HB3 := Blk.new w3 149 [.int .i64 0, .int .i64 0, .int .i64 0]
  have hCl3 : Cb < w3.heap.size := c3.lt
  have c3' := c3.alloc (.cells #[.int .i64 0, .int .i64 0, .int .i64 0] 149)
  have F3 := hid f3
  have hg3 : g < w3.heap.size := by have := f3.size; omega
  have hgC : g ∉ [Cb] := by simpa using HNE.out
  have n3 : ∀ j, j < 64 → (w3.alloc (.cells #[.int .i64 0, .int .i64 0, .int .i64 0] 149)).cell? ⟨g, j, none⟩ = some (.int .u8 0) := fun j hj => by
    rw [((Below.refl (w3.heap.size) w3).alloc (Nat.le_refl _) _).cell (p := ⟨g, j, none⟩) hg3, f3.cell (p := ⟨g, j, none⟩) hgl hgC]
    exact nought_cell Q2.out hj
  have I2 := hid (cur_int0b _ Cb g 1 62 (c + 1) c3' (by omega) (by omega) (by omega) (n3 1 (by omega)) HNE.out)
  have R3 : Hid (Blk (w3.alloc (.cells #[.int .i64 0, .int .i64 0, .int .i64 0] 149)) w.heap.size 149 [.int .i64 0, .int .i64 0, .int .i64 0]) := (R2.out.fr f3 (by simpa using Ne.symm hCw)).alloc _
  have F3a : Hid (Fr [Cb] w2 (w3.alloc (.cells #[.int .i64 0, .int .i64 0, .int .i64 0] 149))) := f3.alloc _
  have N3 := hid n3
  have HB3 := hid HB3
  have S3 : Hid ((w3.alloc (.cells #[.int .i64 0, .int .i64 0, .int .i64 0] 149)).heap.size = w3.heap.size + 1) := World.size_alloc _ _
  have LG := hid hg3
  have LC := hid hCl3
  clear c3 c3' n3 f3 hg3 hCl3
  go_wp2_with fail
  generalize w3.alloc (.cells #[.int .i64 0, .int .i64 0, .int .i64 0] 149) = Wa at *
  generalize w3.heap.size = H at *
  refine I2.out.mono ?_
  rintro e w4 ⟨rfl, c4, f4⟩
  have hHC : H ≠ Cb := by have := LC.out; omega
  have hHg : g ≠ H := by have := LG.out; omega
  have hHw : w.heap.size ≠ H := by have := LC.out; have := B2.out.size; omega
  have hB4 := HB3.out.fr f4 (by simpa using hHC)
  have r4 := R3.out.fr f4 (by simpa using Ne.symm hCw)
  have h41 := hB4.cell 1
  have g41 := hB4.frozen 1
  have l41 := hB4.lt
  simp only [List.getElem?_cons_zero, List.getElem?_cons_succ] at h41
  have c5 := c4.far (p := ⟨H, 1, none⟩) (Ne.symm hHC) (.int .i64 0)
  have hB5 := hB4.set_ 1 (.int .i64 0)
  have r5 := r4.far (p := ⟨H, 1, none⟩) hHw (.int .i64 0)
  have hgl4 : g < Wa.heap.size := by have := LG.out; have := S3.out; omega
  have n5 : ∀ j, j < 64 → (w4.setCell ⟨H, 1, none⟩ (.int .i64 0)).cell? ⟨g, j, none⟩ = some (.int .u8 0) := fun j hj => by
    rw [World.cell?_of_block (Below.heap_setCell w4 _ _ g (by simpa using hHg)), f4.cell (p := ⟨g, j, none⟩) hgl4 (by simpa using HNE.out)]
    exact N3.out j hj
  have F5 : Hid (Fr [Cb, H] w2 (w4.setCell ⟨H, 1, none⟩ (.int .i64 0))) := ((F3a.out.mono (S' := [Cb, H]) (by intro q hq; left; simp at hq ⊢; exact .inl hq)).trans (f4.mono (S' := [Cb, H]) (by intro q hq; left; simp at hq ⊢; exact .inl hq)) (Sub.refl _ _)).setCell (.inl (by simp)) _
  have I3 := hid (cur_int0b _ Cb g 2 61 c c5 (by omega) (by omega) (by omega) (n5 2 (by omega)) HNE.out)
  have HB5 := hid hB5
  have R5 := hid r5
  have S5 : Hid (H < (w4.setCell ⟨H, 1, none⟩ (.int .i64 0)).heap.size) := hB5.lt
  clear c4 f4 hB4 r4 c5 hB5 r5 n5
  go_wp2_with fail
  generalize w4.setCell ⟨H, 1, none⟩ (.int .i64 0) = Wb at *
  clear h41 g41 l41
  refine I3.out.mono ?_
  rintro e w5 ⟨rfl, c6, f6⟩
  have hB6 := HB5.out.fr f6 (by simpa using hHC)
  have r6 := R5.out.fr f6 (by simpa using Ne.symm hCw)
  have h62 : w5.cell? ⟨H, 2, none⟩ = some (.int .i64 0) := hB6.cell 2
  have g62 := hB6.frozen 2
  have l62 := hB6.lt
  have hB7 := hid (hB6.set_ 2 (.int .i64 0))
  have R7 := hid (r6.far (p := ⟨H, 2, none⟩) hHw (.int .i64 0))
  have C7 := hid (c6.far (p := ⟨H, 2, none⟩) (Ne.symm hHC) (.int .i64 0))
  have F7 : Hid (Fr [Cb, H] w2 (w5.setCell ⟨H, 2, none⟩ (.int .i64 0))) := (F5.out.trans (f6.mono (S' := [Cb, H]) (by intro q hq; left; simp at hq ⊢; exact .inl hq)) (Sub.refl _ _)).setCell (.inl (by simp)) _
  have L7 : Hid (w5.heap.size = (w5.setCell ⟨H, 2, none⟩ (.int .i64 0)).heap.size) := by show _ = _; simp
  obtain ⟨k0, hk0⟩ : ∃ v, v = (w5.setCell ⟨H, 2, none⟩ (.int .i64 0)).cell? ⟨H, 0, none⟩ := ⟨_, rfl⟩
  have e0 : (w5.setCell ⟨H, 2, none⟩ (.int .i64 0)).cell? ⟨H, 0, none⟩ = some (.int .i64 0) := hB7.out.cell 0
  have e1 : (w5.setCell ⟨H, 2, none⟩ (.int .i64 0)).cell? ⟨H, 1, none⟩ = some (.int .i64 0) := hB7.out.cell 1
  clear c6 f6 hB6 r6 hk0
  go_wp2_with fail
  have bI := Blk.new (w5.setCell ⟨H, 2, none⟩ (.int .i64 0)) 3 [.int .i64 0, .int .i64 0, .int .i64 0]
  rw [← L7.out] at bI
  have hI : IntsIn ((w5.setCell ⟨H, 2, none⟩ (.int .i64 0)).alloc (.cells #[.int .i64 0, .int .i64 0, .int .i64 0] 3)) w5.heap.size [0, 0, 0] := ⟨bI.lt, fun j m hj => by
    refine (bI.cell j).trans ?_
    match j, hj with
    | 0, hj => cases hj; rfl
    | 1, hj => cases hj; rfl
    | 2, hj => cases hj; rfl
    | j + 3, hj => simp at hj⟩
  refine (leb_int _ none 0 [] w5.heap.size [0, 0, 0] (bsrc_nil _) hI (by simp) (by simp)).mono ?_
  rintro e w6 ⟨A6, cap6, ys, rfl, q6, hy, b6⟩
  have hy : ys.length ≤ 30 := by simpa using hy
  have hsz6 : w5.heap.size + 1 ≤ w6.heap.size := by have := b6.size; simpa using this
  have hB8 := ((hB7.out.alloc (.cells #[.int .i64 0, .int .i64 0, .int .i64 0] 3)).below b6 (by simp; omega))
  have r8 := ((R7.out.alloc (.cells #[.int .i64 0, .int .i64 0, .int .i64 0] 3)).below b6 (Nat.lt_trans R7.out.lt (by simp)))
  have c8 := ((C7.out.alloc (.cells #[.int .i64 0, .int .i64 0, .int .i64 0] 3)).below b6 (Nat.lt_trans C7.out.lt (by simp)))
  have hHw1 : w1.heap.size ≤ H := by have := LC.out; omega
  have s2 := B2.out.size
  have b7 : Below w1.heap.size w2 (w5.setCell ⟨H, 2, none⟩ (.int .i64 0)) := F7.out.below s2 (by intro q hq; simp at hq; rcases hq with rfl | rfl <;> omega)
  have FB : Below w1.heap.size w1 w6 := ((B2.out.trans b7).alloc (by have := b7.size; omega) _).trans (b6.mono (by have := b7.size; simp at this ⊢; omega))
  have n8 : ∀ W, Below w1.heap.size w1 W → ∀ o, (convert 81 9 (.slice (some ⟨g1, ys.length, none⟩) (64 - ys.length) o)).run Tryz.prog W = .ok (.string ⟨(List.replicate (64 - ys.length) (0 : UInt8)).toArray⟩) W := fun W hW o => by
    refine conv_noughts W g1 ys.length (64 - ys.length) o (fun j hj => ?_)
    rw [hW.cell (p := ⟨g1, ys.length + j, none⟩) hg1l]
    exact nought_cell Q1.out (by omega)
  have hcv := n8 w6 FB (cap1 - ys.length)
  have hmin : min (ys.length : Int) 64 = (ys.length : Int) := by omega
  have hcl : (ys.length : Int) ≤ 64 := by omega
  have hcne : ¬ cap1 = ys.length := by omega
  have hc1' : (64 : Int) ≤ (cap1 : Int) := by omega
  have hcm : (cap1 : Int) ≤ 9223372036854775807 := by unfold maxLen at hm1; omega
  have HY := hid hy
  have HB8 := hid hB8
  have R8 := hid r8
  have C8 := hid c8
  clear hI bI q6 b6 hB8 r8 c8 n8 hy hm2'
  go_wp2_with fail
  refine (Tryz.strings_Trim_one ⟨Array.replicate (64 - ys.length) 0⟩ 0 (by decide) w6 (by
    have : (⟨Array.replicate (64 - ys.length) 0⟩ : ByteArray).size = 64 - ys.length := by show (Array.replicate (64 - ys.length) (0 : UInt8)).size = _; simp
    omega)).mono ?_
  rintro e w7 ⟨rfl, hw7⟩
  rw [trimB_noughts]
  have C9 : Blk w7 Cb 243 [.slice (some ⟨g, 2 + 1, none⟩) 61 c, .bool false] := by rcases hw7 with rfl | rfl <;> exact C8.out
  have HB9 : Blk w7 H 149 [.int .i64 0, .int .i64 0, .int .i64 0] := by rcases hw7 with rfl | rfl <;> exact HB8.out
  have R9 : Blk w7 w.heap.size 149 [.int .i64 0, .int .i64 0, .int .i64 0] := by rcases hw7 with rfl | rfl <;> exact R8.out
  have FB9 : Below w1.heap.size w1 w7 := by rcases hw7 with rfl | rfl; exact FB; exact bdrewN FB 1
  have z0 : w7.cell? ⟨H, 0, none⟩ = some (.int .i64 0) := HB9.cell 0
  have z1 : w7.cell? ⟨H, 1, none⟩ = some (.int .i64 0) := HB9.cell 1
  have z2 : w7.cell? ⟨H, 2, none⟩ = some (.int .i64 0) := HB9.cell 2
  have r0 : w7.cell? ⟨w.heap.size, 0, none⟩ = some (.int .i64 0) := R9.cell 0
  have r1 : w7.cell? ⟨w.heap.size, 1, none⟩ = some (.int .i64 0) := R9.cell 1
  have r2 : w7.cell? ⟨w.heap.size, 2, none⟩ = some (.int .i64 0) := R9.cell 2
  have rf0 := R9.frozen 0
  have rf1 := R9.frozen 1
  have rf2 := R9.frozen 2
  have C9 := hid C9
  have HB9 := hid HB9
  have HG9 : Hid (∀ m, Calls Tryz.prog 67 #[.pointer (some ⟨Cb, 0, none⟩)] (w7.drewN m) fun e w' => e = .returned (.bool true) ∧ w' = w7.drewN m) := fun m => (cur_good _ Cb _ _ (C9.out.drewN m)).mono (fun _ _ h => ⟨h.1, h.2.symm⟩)
  have R9 := hid R9
  have FB9 := hid FB9
  clear hcv hmin hcl hcne hc1' hcm hsz6 b7 L7 F7 e0 e1 h62 g62 l62 FB R8 HB8 C8 hB7 R7 C7 F5 I3 HB5 R5 S5 I2 R3 F3a N3 HB3 S3 hgl4 hg1l hm1 hc1 Q1 R1 hCb hg hgl hm2 hc2 I1 Q2 B2 HNE HGH hCw F3 hgC hHg hHw hHC hw7 HY
  go_wp2_with fail
  go_quiet (first
      | (go_at_call 67; exact Calls.quiet_of_same (HG9.out _)))
  go_wp2_with fail
  have FW : Below w.heap.size w w7 := (B0.out.trans (B1.out.mono (by simp))).trans (FB9.out.mono (by omega))
  have hW := ((((R9.out).drewN nq).set_ 0 (.int .i64 0)).set_ 1 (.int .i64 0)).set_ 2 (.int .i64 0)
  refine bodyPost_ret (res_cell rfl _ _ _ _ [.int .i64 0, .int .i64 0, .int .i64 0] _ hW rfl Tryz.underlying149 rfl size_head) rfl ⟨rfl, ?_⟩
  exact ((((bdrewN FW nq).setCell (p := ⟨w.heap.size, 0, none⟩) (Nat.le_refl _) _).setCell (p := ⟨w.heap.size, 1, none⟩) (Nat.le_refl _) _).setCell (p := ⟨w.heap.size, 2, none⟩) (Nat.le_refl _) _)
end
end Go.Proofs.YtdfkdgnhpdgphaaGreatDoor

/-
  The log over a drum of noughts: newest.
-/
namespace Go.Proofs.YtdfkdgnhpdgphaaGreatDoor
open Go.RowKit Go.Proofs.Lig

set_option maxRecDepth 100000 in
theorem res_cell1 {P : Program} {fn : Func} {p : Tmp} {ty : TypeId} (h : fn.results = #[.cell p ty]) (tmps : Array Value) (w : World) (g : Nat) (t : TypeId) (vs : List Value) (d : TypeDesc) (hb : Blk w g t vs) (hp : tmps.getD p undef = .pointer (some ⟨g, 0, none⟩))
    (hu : P.underlying ty = some d) (hd : d.isRow = true) (hi : (P.info? ty).map (·.size) = some vs.length) :
    (results fn tmps).run P w = .ok (.agg vs.toArray) w := by
  unfold results
  rw [h]
  simp only [Array.getD_eq_getD_getElem?] at hp
  simp [hp, asAddr, run_loadVar_mid w g 0 ty vs d hb.range hu hd hi]

set_option maxHeartbeats 1000000 in
set_option maxRecDepth 100000 in
theorem redo_newest0 (w : World) (N D G M n : Nat) (good : List Int) (wait : Value) (k : Nat) (ws : List Value) (h : Drm w N D G M n good (noughts n) wait k ws) (hn4 : 4 ≤ n) (hn : n ≤ 200) :
    Calls Tryz.prog 62 #[.pointer (some ⟨D, 0, none⟩)] w fun e w' => e = .returned (.agg #[.int .i64 0, .int .i64 0, .int .i64 0]) ∧ Below w.heap.size w w' := by
  have B0 : Below w.heap.size w (w.alloc (.cells #[.int .i64 0, .int .i64 0, .int .i64 0] 149)) := (Below.refl _ _).alloc (Nat.le_refl _) _
  have R0 := Blk.new w 149 [.int .i64 0, .int .i64 0, .int .i64 0]
  have HR := hid (redo_headOf0 _ N D G M n good wait k ws (h.below B0) 0 (by omega) hn)
  have HH := hid h
  clear h
  go_enter Tryz.func62, Tryz.ntmps62
  go_wp2_with fail
  refine HR.out.mono ?_
  rintro e w1 ⟨rfl, b1⟩
  have R1 := R0.below b1 (by simp)
  have BW1 := B0.trans (b1.mono (by simp))
  have RA := Blk.new w1 149 [.int .i64 0, .int .i64 0, .int .i64 0]
  have BA : Below w1.heap.size w1 (w1.alloc (.cells #[.int .i64 0, .int .i64 0, .int .i64 0] 149)) := (Below.refl _ _).alloc (Nat.le_refl _) _
  have s1 : w.heap.size < w1.heap.size := by have := b1.size; simp at this; omega
  have HB := hid BW1
  have HR2 := hid (redo_headOf0 _ N D G M n good wait k ws ((HH.out.below BW1).below BA) 1 (by omega) hn)
  have R1a := hid (R1.below BA s1)
  have RA := hid RA
  have BA := hid BA
  clear R0 B0 R1 BW1 b1 HR
  go_wp2_with fail
  refine HR2.out.mono ?_
  rintro e w2 ⟨rfl, b2⟩
  have R2 := hid (R1a.out.below b2 (by simp; omega))
  have BW2 := hid ((HB.out.trans (BA.out.mono (by omega))).trans (b2.mono (by simp; omega)))
  have s2 : w1.heap.size + 1 ≤ w2.heap.size := by have := b2.size; simpa using this
  have q0 : w2.cell? ⟨w.heap.size, 0, none⟩ = some (.int .i64 0) := R2.out.cell 0
  have q1 : w2.cell? ⟨w.heap.size, 1, none⟩ = some (.int .i64 0) := R2.out.cell 1
  have q2 : w2.cell? ⟨w.heap.size, 2, none⟩ = some (.int .i64 0) := R2.out.cell 2
  have f0 := R2.out.frozen 0
  have f1 := R2.out.frozen 1
  have f2 := R2.out.frozen 2
  have l2 := R2.out.lt
  clear HR2 b2
  go_wp2_with fail
  have hW := ((((R2.out).set_ 0 (.int .i64 0)).set_ 1 (.int .i64 0)).set_ 2 (.int .i64 0)).alloc (.cells #[.int .i64 0, .int .i64 0, .int .i64 0] 149)
  refine bodyPost_ret (res_cell1 rfl _ _ _ _ [.int .i64 0, .int .i64 0, .int .i64 0] _ hW rfl Tryz.underlying149 rfl size_head) rfl ⟨rfl, ?_⟩
  have hB := ((BW2.out.setCell (p := ⟨w.heap.size, 0, none⟩) (Nat.le_refl _) (.int .i64 0)).setCell (p := ⟨w.heap.size, 1, none⟩) (Nat.le_refl _) (.int .i64 0)).setCell (p := ⟨w.heap.size, 2, none⟩) (Nat.le_refl _) (.int .i64 0)
  exact hB.alloc hB.size _
end Go.Proofs.YtdfkdgnhpdgphaaGreatDoor
