/-
  redo.writes: the sectors of the log's text, and the head.
-/
import Derived.Test.YtdfkdgnhpdgphaaGreatDoorSkw31
import Derived.Test.YtdfkdgnhpdgphaaGreatDoorSkw34
import Derived.Test.YtdfkdgnhpdgphaaGreatDoorSkw35
import Derived.Laws.BytesArg
import Derived.Deep.RegionHeld3
import Derived.Test.YtdfkdgnhpdgphaaGreatDoorSkw29
namespace Go.Proofs.YtdfkdgnhpdgphaaGreatDoor
open Go.RowKit Go.Proofs.Lig

set_option maxRecDepth 100000 in
/-- A part of a row of bytes, to be read. -/
theorem bsrc_part {w : World} {g cap : Nat} {xs : List Int} (h : BSrc w (some ⟨g, 0, none⟩) cap xs) (a b c : Nat) (_hb : b ≤ xs.length) : BSrc w (some ⟨g, a, none⟩) c ((xs.take b).drop a) := by
  refine ⟨fun ad had => ?_, fun e => (by cases e), fun x hx => h.bytes x (List.mem_of_mem_take (List.mem_of_mem_drop hx))⟩
  cases had
  refine ⟨(h.cells _ rfl).1, fun j u hj => ?_⟩
  have hx : (u8s xs)[a + j]? = some u := by
    unfold u8s at hj ⊢
    simp only [List.getElem?_map, List.getElem?_drop] at hj ⊢
    rw [List.getElem?_take] at hj
    split at hj
    · exact hj
    · simp at hj
  have := (h.cells _ rfl).2 (a + j) u hx
  have e1 : (⟨g, a, none⟩ : Addr).add j = ⟨g, a + j, none⟩ := by
    unfold Addr.add
    split
    · next hz => subst hz; rfl
    · rfl
  have e2 : (⟨g, 0, none⟩ : Addr).add (a + j) = ⟨g, a + j, none⟩ := by
    unfold Addr.add
    split
    · next hz => simp
    · simp
  rw [e1, ← e2]
  exact this

set_option maxRecDepth 100000 in
/-- A row of bytes is not the drum. -/
theorem far_drum {w : World} {base D cap : Nat} {A : Option Addr} {xs : List Int} {cs : List Value} (h : BRow w base A cap xs) (hD : Blk w D 122 cs) : ∀ ad, A = some ad → ad.block ≠ D := fun ad had => by
  cases had
  rcases h.own.2 with ⟨hv, _⟩ | ⟨g', cap', cur, hv, _, hh, _⟩
  · cases hv
  · injection hv with e1
    injection e1 with e1
    intro hgd
    rw [e1] at hgd
    have hgd : g' = D := hgd
    rw [hgd, show w.heap[D]? = _ from hD] at hh
    cases hh
set_option maxRecDepth 100000 in
theorem i64_small {x : Int} (h0 : 0 ≤ x) (h1 : x < 100000) : IntKind.i64.wrap x = x := by
  have e : x % 18446744073709551616 = x := by omega
  simp only [IntKind.wrap, IntKind.bits, IntKind.signed]
  simp only [show ((2 : Int) ^ 64) = 18446744073709551616 from rfl, show ((2 : Int) ^ (64 - 1)) = 9223372036854775808 from rfl, e]
  rw [if_neg (by simp; omega)]

set_option maxRecDepth 100000 in
set_option maxHeartbeats 4000000 in
theorem redo_writes (w : World) (N D G M n L : Nat) (good now : List Int) (wait : Value) (k : Nat) (ws : List Value) (h : Drm w N D G M n good now wait k ws) (hk : k ≤ 100) (hn4 : 4 ≤ n) (hn : n ≤ 200) (hN : N ≤ w.heap.size) (lc : List Value) (hL : Blk w L 152 lc) (h0 : lc[0]? = some (.pointer (some ⟨D, 0, none⟩)))
    (num bank len : Nat) (hb : bank ≤ 1) (base : Nat) (A : Option Addr) (cap : Nat) (xs : List Int) (hR : BRow w base A cap xs) (hx : xs.length ≤ 64 * ((n - 2) / 2)) (f : Nat) (hf : f ≤ 10000) :
    Calls Tryz.prog 200 #[.pointer (some ⟨L, 0, none⟩), .agg #[.int .i64 (num : Int), .int .i64 (bank : Int), .int .i64 (len : Int)], .slice A xs.length cap, .int .i64 (f : Int)] w fun e w' => e = .returned (.int .i64 0) ∧ ∃ good' now', Drm w' N D G M n good' now' (.slice none 0 0) 0 [] ∧ TFr drmT w w' ∧ Below N w w' := by
  have K0 := Blk.new w 149 [.int .i64 (num : Int), .int .i64 (bank : Int), .int .i64 (len : Int)]
  have B0 := below_alloc w (.cells #[.int .i64 (num : Int), .int .i64 (bank : Int), .int .i64 (len : Int)] 149)
  have HD0 := hid (h.below B0)
  have HL0 := hid (hL.below B0 hL.lt)
  have HK0 := hid K0
  have HR0 : Hid (BRow (w.alloc (.cells #[.int .i64 (num : Int), .int .i64 (bank : Int), .int .i64 (len : Int)] 149)) base A cap xs) := ⟨own_tfr (ts := []) hR.own (.of_below B0) (by simp), hR.bytes⟩
  have HT0 : Hid (TFr drmT w (w.alloc (.cells #[.int .i64 (num : Int), .int .i64 (bank : Int), .int .i64 (len : Int)] 149))) := .of_below B0
  have HB0 := hid (B0.mono hN)
  have HNN := hid hN
  have HS0 : Hid (N ≤ (w.alloc (.cells #[.int .i64 (num : Int), .int .i64 (bank : Int), .int .i64 (len : Int)] 149)).heap.size) := Nat.le_trans hN B0.size
  have hxi : xs.length ≤ 6336 := by omega
  obtain ⟨b, hbb⟩ : ∃ b, (n - 2) / 2 = b := ⟨_, rfl⟩
  have HX : Hid (xs.length ≤ 64 * b ∧ b ≤ 99 ∧ 2 + 2 * b ≤ n) := by show _ ∧ _; omega
  have HBB := hid hbb
  clear h hL K0 B0 hR hN hbb hx
  go_enter Tryz.func200, Tryz.ntmps200
  go_wp2_with fail
  generalize w.alloc (.cells #[.int .i64 (num : Int), .int .i64 (bank : Int), .int .i64 (len : Int)] 149) = w1 at *
  go_loopw [8, 9] (fun e0 v wr => ∃ (j k' : Nat) (now' : List Int) (wait' : Value) (ws' : List Value), e0 = .int .i64 0 ∧ v = .int .i64 (j : Int) ∧ j ≤ 200 ∧ Hid (k' ≤ 100 + j) ∧ Hid (Drm wr N D G M n good now' wait' k' ws') ∧ Hid (TFr drmT w1 wr) ∧ Hid (Below N w wr)) (fun _ v _ => 201 - (intOf v).toNat)
  case atStart => exact ⟨f / 64, k, now, wait, ws, rfl, by go_num, by omega, by show _ ≤ _; omega, HD0, .refl _ _, HB0⟩
  case round =>
    obtain ⟨j, k', now', wait', ws', rfl, rfl, hj2, HK, HD, HT, HW⟩ := hrel
    by_cases hlt : j * 64 < xs.length
    · have hj : j < b := by have := HX.out; omega
      obtain ⟨q, hq⟩ : ∃ q, 2 + bank * b + j = q := ⟨_, rfl⟩
      have hqn : q < n := by
        have := HX.out
        rcases (by omega : bank = 0 ∨ bank = 1) with h | h <;> rw [h] at hq <;> omega
      have HSC : Hid (Calls Tryz.prog 65 #[.pointer (some ⟨D, 0, none⟩), .int .i64 (bank : Int), .int .i64 (j : Int)] wr.drew fun e w' => e = .returned (.int .i64 (q : Int)) ∧ wr.drew = w') := by
        have := redo_sector (w := wr.drew) (HD.out.below (below_drew _)) hn4 hn bank j hb (by rw [HBB.out]; exact hj)
        rw [HBB.out, hq] at this
        exact this
      have HRW : Hid (BRow wr base A cap xs) := ⟨own_tfr HR0.out.own HT.out (by decide), HR0.out.bytes⟩
      have hcap : xs.length ≤ cap := by
        rcases HRW.out.own.2 with ⟨hv, h0⟩ | ⟨g, cap', cur, hv, _, hh, h1, _⟩
        · omega
        · injection hv with _ _ e3; omega
      have hAg : ∃ g, A = some ⟨g, 0, none⟩ := by
        rcases HRW.out.own.2 with ⟨hv, h0⟩ | ⟨g, cap', cur, hv, _⟩
        · omega
        · injection hv with e1; exact ⟨g, e1⟩
      obtain ⟨g, rfl⟩ := hAg
      obtain ⟨e, he⟩ : ∃ e, min ((j + 1) * 64) xs.length = e := ⟨_, rfl⟩
      have he1 : e ≤ xs.length := by omega
      have he2 : j * 64 < e := by omega
      have he3 : e - j * 64 ≤ 64 := by omega
      have hmin : min (((j : Int) + 1) * 64) (xs.length : Int) = (e : Int) := by omega
      have hlo : (0 : Int) ≤ (j : Int) * 64 := by omega
      have hle : (j : Int) * 64 ≤ (e : Int) := by omega
      have hec : (e : Int) ≤ (cap : Int) := by omega
      have hltI : (j : Int) * 64 < (xs.length : Int) := by omega
      have KL : Blk wr L 152 lc := HL0.out.tfr HT.out (by decide)
      have KH : Blk wr w.heap.size 149 [.int .i64 (num : Int), .int .i64 (bank : Int), .int .i64 (len : Int)] := HK0.out.tfr HT.out (by decide)
      have l0 : wr.cell? ⟨L, 0, none⟩ = some (.pointer (some ⟨D, 0, none⟩)) := (KL.cell 0).trans h0
      have b1 : wr.cell? ⟨w.heap.size, 1, none⟩ = some (.int .i64 (bank : Int)) := KH.cell 1
      have hjb : (j : Int) ≤ 100 := by have := HX.out; omega
      have hpl : ((xs.take e).drop (j * 64)).length = e - j * 64 := by simp; omega
      have hDl := HD.out.blk
      have HWT := hid (drum_write wr.drew N D G M n good now' wait' k' ws' q (some ⟨g, j * 64, none⟩) (cap - j * 64) ((xs.take e).drop (j * 64)) (HD.out.below (below_drew _)) hqn hn (by have := HK.out; omega) (Nat.le_trans HNN.out HW.out.size) (bsrc_part (HRW.out.toSrc.below (below_drew _)) (j * 64) e _ he1) (fun ad had => by
        cases had
        rcases HRW.out.own.2 with ⟨hv, _⟩ | ⟨g', cap', cur, hv, _, hh, _⟩
        · cases hv
        · injection hv with e1
          injection e1 with e1
          injection e1 with e1
          intro hgd
          have hgd : g = D := hgd
          rw [← e1, hgd, show wr.heap[D]? = _ from hDl] at hh
          cases hh) (by omega))
      rw [hpl] at HWT
      have KEEP : Hid (∀ W, TFr drmT wr.drew W → W.cell? ⟨L, 0, none⟩ = some (.pointer (some ⟨D, 0, none⟩)) ∧ W.cell? ⟨w.heap.size, 1, none⟩ = some (.int .i64 (bank : Int))) := fun W hW => ⟨((KL.drew.tfr hW (by decide)).cell 0).trans h0, (KH.drew.tfr hW (by decide)).cell 1⟩
      have FIN : Hid (∀ now3 wait3 ws3 W, Drm W N D G M n good now3 wait3 (k' + 1) ws3 → TFr drmT wr.drew W → Below N wr.drew W → ∃ (j1 k1 : Nat) (now1 : List Int) (wait1 : Value) (ws1 : List Value), Value.int .i64 0 = .int .i64 0 ∧ Value.int .i64 ((j : Int) + 1) = .int .i64 (j1 : Int) ∧ j1 ≤ 200 ∧ Hid (k1 ≤ 100 + j1) ∧ Hid (Drm W N D G M n good now1 wait1 k1 ws1) ∧ Hid (TFr drmT w1 W) ∧ Hid (Below N w W)) := fun now3 wait3 ws3 W hd ht hb' => ⟨j + 1, k' + 1, now3, wait3, ws3, rfl, by go_num, by have := HX.out; omega, by show _ ≤ _; have := HK.out; omega, hd, HT.out.trans ht, HW.out.trans ((Below.mono (below_drew wr) (Nat.le_trans HNN.out HW.out.size)).trans hb')⟩
      have hw1 : IntKind.i64.wrap ((j : Int) * 64) = (j : Int) * 64 := i64_small (by omega) (by omega)
      have hw2 : IntKind.i64.wrap ((j : Int) + 1) = (j : Int) + 1 := i64_small (by omega) (by omega)
      have hw3 : IntKind.i64.wrap (((j : Int) + 1) * 64) = ((j : Int) + 1) * 64 := i64_small (by omega) (by omega)
      have htn : ((j : Int) * 64).toNat = j * 64 := by omega
      have hmx : max (e : Int) 0 = (e : Int) := by omega
      have hcj : ¬ cap = j * 64 := by omega
      clear he hq KL KH hDl
      go_wp2_with fail
      -- REGION secs
      refine wp_region_held_drew (S := fun W => W.cell? ⟨L, 0, none⟩ = some (.pointer (some ⟨D, 0, none⟩)) ∧ W.cell? ⟨w.heap.size, 1, none⟩ = some (.int .i64 (bank : Int))) (by kernel_rfl) (by exact ⟨l0, b1⟩) (fun hHeld => ?_)
      refine wpAnyH_take (i := 0) (oi := { dst := some 22, op := Op.move (Operand.tmp 0), type := 77, pos := "redo.go:88", after := #[], guard := none }) (v := ?_) rfl (by kernel_rfl) (by kernel_rfl) (by kernel_rfl) (fun _ _ _ h => h) (Or.inl ⟨by rfl, ?_⟩) hHeld ?_
      rotate_left
      · (intro W1 hSw; (try dsimp only at hSw); go_simp; first | done | (with_reducible rfl))
      try simp only [Act.put, List.setIfInBounds_toArray, List.set_cons_zero, List.set_cons_succ]
      refine wpAnyH_take (i := 1) (oi := { dst := some 23, op := Op.nilCheck (Operand.tmp 22), type := 0, pos := "redo.go:88", after := #[{ on := 0, ground := Ground.data }], guard := none }) (v := ?_) rfl (by kernel_rfl) (by kernel_rfl) (by kernel_rfl) (fun _ _ _ h => h) (Or.inl ⟨by rfl, ?_⟩) hHeld ?_
      rotate_left
      · (intro W1 hSw; (try dsimp only at hSw); go_simp; first | done | (with_reducible rfl))
      try simp only [Act.put, List.setIfInBounds_toArray, List.set_cons_zero, List.set_cons_succ]
      refine wpAnyH_take (i := 2) (oi := { dst := some 24, op := Op.fieldAddr 152 (Operand.tmp 23) 0, type := 0, pos := "redo.go:88", after := #[{ on := 1, ground := Ground.data }], guard := none }) (v := ?_) rfl (by kernel_rfl) (by kernel_rfl) (by kernel_rfl) (fun _ _ _ h => h) (Or.inl ⟨by rfl, ?_⟩) hHeld ?_
      rotate_left
      · (intro W1 hSw; (try dsimp only at hSw); go_simp; first | done | (with_reducible rfl))
      try simp only [Act.put, List.setIfInBounds_toArray, List.set_cons_zero, List.set_cons_succ]
      refine wpAnyH_take (i := 3) (oi := { dst := some 25, op := Op.load 25 (Operand.tmp 24), type := 25, pos := "redo.go:88", after := #[{ on := 2, ground := Ground.data }], guard := none }) (v := ?_) rfl (by kernel_rfl) (by kernel_rfl) (by kernel_rfl) (fun _ _ _ h => h) (Or.inl ⟨by rfl, ?_⟩) hHeld ?_
      rotate_left
      · (intro W1 hSw; (try dsimp only at hSw); go_simp; first | done | (with_reducible rfl))
      try simp only [Act.put, List.setIfInBounds_toArray, List.set_cons_zero, List.set_cons_succ]
      refine wpAnyH_take (i := 4) (oi := { dst := some 26, op := Op.move (Operand.tmp 0), type := 77, pos := "redo.go:88", after := #[], guard := none }) (v := ?_) rfl (by kernel_rfl) (by kernel_rfl) (by kernel_rfl) (fun _ _ _ h => h) (Or.inl ⟨by rfl, ?_⟩) hHeld ?_
      rotate_left
      · (intro W1 hSw; (try dsimp only at hSw); go_simp; first | done | (with_reducible rfl))
      try simp only [Act.put, List.setIfInBounds_toArray, List.set_cons_zero, List.set_cons_succ]
      refine wpAnyH_take (i := 5) (oi := { dst := some 27, op := Op.nilCheck (Operand.tmp 26), type := 0, pos := "redo.go:88", after := #[{ on := 4, ground := Ground.data }], guard := none }) (v := ?_) rfl (by kernel_rfl) (by kernel_rfl) (by kernel_rfl) (fun _ _ _ h => h) (Or.inl ⟨by rfl, ?_⟩) hHeld ?_
      rotate_left
      · (intro W1 hSw; (try dsimp only at hSw); go_simp; first | done | (with_reducible rfl))
      try simp only [Act.put, List.setIfInBounds_toArray, List.set_cons_zero, List.set_cons_succ]
      refine wpAnyH_take (i := 6) (oi := { dst := some 28, op := Op.fieldAddr 152 (Operand.tmp 27) 0, type := 0, pos := "redo.go:88", after := #[{ on := 5, ground := Ground.data }], guard := none }) (v := ?_) rfl (by kernel_rfl) (by kernel_rfl) (by kernel_rfl) (fun _ _ _ h => h) (Or.inl ⟨by rfl, ?_⟩) hHeld ?_
      rotate_left
      · (intro W1 hSw; (try dsimp only at hSw); go_simp; first | done | (with_reducible rfl))
      try simp only [Act.put, List.setIfInBounds_toArray, List.set_cons_zero, List.set_cons_succ]
      refine wpAnyH_take (i := 7) (oi := { dst := some 29, op := Op.load 25 (Operand.tmp 28), type := 25, pos := "redo.go:88", after := #[{ on := 6, ground := Ground.data }], guard := none }) (v := ?_) rfl (by kernel_rfl) (by kernel_rfl) (by kernel_rfl) (fun _ _ _ h => h) (Or.inl ⟨by rfl, ?_⟩) hHeld ?_
      rotate_left
      · (intro W1 hSw; (try dsimp only at hSw); go_simp; first | done | (with_reducible rfl))
      try simp only [Act.put, List.setIfInBounds_toArray, List.set_cons_zero, List.set_cons_succ]
      refine wpAnyH_take (i := 8) (oi := { dst := some 30, op := Op.fieldAddr 149 (Operand.tmp 5) 1, type := 0, pos := "redo.go:88", after := #[], guard := none }) (v := ?_) rfl (by kernel_rfl) (by kernel_rfl) (by kernel_rfl) (fun _ _ _ h => h) (Or.inl ⟨by rfl, ?_⟩) hHeld ?_
      rotate_left
      · (intro W1 hSw; (try dsimp only at hSw); go_simp; first | done | (with_reducible rfl))
      try simp only [Act.put, List.setIfInBounds_toArray, List.set_cons_zero, List.set_cons_succ]
      refine wpAnyH_take (i := 9) (oi := { dst := some 31, op := Op.load 3 (Operand.tmp 30), type := 3, pos := "redo.go:88", after := #[{ on := 8, ground := Ground.data }], guard := none }) (v := ?_) rfl (by kernel_rfl) (by kernel_rfl) (by kernel_rfl) (fun _ _ _ h => h) (Or.inl ⟨by rfl, ?_⟩) hHeld ?_
      rotate_left
      · (intro W1 hSw; (try dsimp only at hSw); go_simp; first | done | (with_reducible rfl))
      try simp only [Act.put, List.setIfInBounds_toArray, List.set_cons_zero, List.set_cons_succ]
      refine wpAnyH_take (i := 10) (oi := { dst := some 32, op := Op.move (Operand.tmp 9), type := 3, pos := "redo.go:88", after := #[], guard := none }) (v := ?_) rfl (by kernel_rfl) (by kernel_rfl) (by kernel_rfl) (fun _ _ _ h => h) (Or.inl ⟨by rfl, ?_⟩) hHeld ?_
      rotate_left
      · (intro W1 hSw; (try dsimp only at hSw); go_simp; first | done | (with_reducible rfl))
      try simp only [Act.put, List.setIfInBounds_toArray, List.set_cons_zero, List.set_cons_succ]
      refine wpAnyH_take (i := 12) (oi := { dst := some 34, op := Op.move (Operand.tmp 2), type := 81, pos := "redo.go:88", after := #[], guard := none }) (v := ?_) rfl (by kernel_rfl) (by kernel_rfl) (by kernel_rfl) (fun _ _ _ h => h) (Or.inl ⟨by rfl, ?_⟩) hHeld ?_
      rotate_left
      · (intro W1 hSw; (try dsimp only at hSw); go_simp; first | done | (with_reducible rfl))
      try simp only [Act.put, List.setIfInBounds_toArray, List.set_cons_zero, List.set_cons_succ]
      refine wpAnyH_take (i := 13) (oi := { dst := some 35, op := Op.move (Operand.tmp 9), type := 3, pos := "redo.go:88", after := #[], guard := none }) (v := ?_) rfl (by kernel_rfl) (by kernel_rfl) (by kernel_rfl) (fun _ _ _ h => h) (Or.inl ⟨by rfl, ?_⟩) hHeld ?_
      rotate_left
      · (intro W1 hSw; (try dsimp only at hSw); go_simp; first | done | (with_reducible rfl))
      try simp only [Act.put, List.setIfInBounds_toArray, List.set_cons_zero, List.set_cons_succ]
      refine wpAnyH_take (i := 14) (oi := { dst := some 36, op := Op.binOp BinOp.mul 3 (Operand.tmp 35) (Operand.const (Value.int IntKind.i64 64)) 3, type := 3, pos := "redo.go:88", after := #[{ on := 13, ground := Ground.data }], guard := none }) (v := ?_) rfl (by kernel_rfl) (by kernel_rfl) (by kernel_rfl) (fun _ _ _ h => h) (Or.inl ⟨by rfl, ?_⟩) hHeld ?_
      rotate_left
      · (intro W1 hSw; (try dsimp only at hSw); go_simp; first | done | (with_reducible rfl))
      try simp only [Act.put, List.setIfInBounds_toArray, List.set_cons_zero, List.set_cons_succ]
      refine wpAnyH_take (i := 15) (oi := { dst := some 37, op := Op.move (Operand.tmp 9), type := 3, pos := "redo.go:88", after := #[], guard := none }) (v := ?_) rfl (by kernel_rfl) (by kernel_rfl) (by kernel_rfl) (fun _ _ _ h => h) (Or.inl ⟨by rfl, ?_⟩) hHeld ?_
      rotate_left
      · (intro W1 hSw; (try dsimp only at hSw); go_simp; first | done | (with_reducible rfl))
      try simp only [Act.put, List.setIfInBounds_toArray, List.set_cons_zero, List.set_cons_succ]
      refine wpAnyH_take (i := 16) (oi := { dst := some 38, op := Op.binOp BinOp.add 3 (Operand.tmp 37) (Operand.const (Value.int IntKind.i64 1)) 3, type := 3, pos := "redo.go:88", after := #[{ on := 15, ground := Ground.data }], guard := none }) (v := ?_) rfl (by kernel_rfl) (by kernel_rfl) (by kernel_rfl) (fun _ _ _ h => h) (Or.inl ⟨by rfl, ?_⟩) hHeld ?_
      rotate_left
      · (intro W1 hSw; (try dsimp only at hSw); go_simp; first | done | (with_reducible rfl))
      try simp only [Act.put, List.setIfInBounds_toArray, List.set_cons_zero, List.set_cons_succ]
      refine wpAnyH_take (i := 17) (oi := { dst := some 39, op := Op.binOp BinOp.mul 3 (Operand.tmp 38) (Operand.const (Value.int IntKind.i64 64)) 3, type := 3, pos := "redo.go:88", after := #[{ on := 16, ground := Ground.data }], guard := none }) (v := ?_) rfl (by kernel_rfl) (by kernel_rfl) (by kernel_rfl) (fun _ _ _ h => h) (Or.inl ⟨by rfl, ?_⟩) hHeld ?_
      rotate_left
      · (intro W1 hSw; (try dsimp only at hSw); go_simp; first | done | (with_reducible rfl))
      try simp only [Act.put, List.setIfInBounds_toArray, List.set_cons_zero, List.set_cons_succ]
      refine wpAnyH_take (i := 18) (oi := { dst := some 40, op := Op.move (Operand.tmp 2), type := 81, pos := "redo.go:88", after := #[], guard := none }) (v := ?_) rfl (by kernel_rfl) (by kernel_rfl) (by kernel_rfl) (fun _ _ _ h => h) (Or.inl ⟨by rfl, ?_⟩) hHeld ?_
      rotate_left
      · (intro W1 hSw; (try dsimp only at hSw); go_simp; first | done | (with_reducible rfl))
      try simp only [Act.put, List.setIfInBounds_toArray, List.set_cons_zero, List.set_cons_succ]
      refine wpAnyH_take (i := 19) (oi := { dst := some 41, op := Op.call { callee := Callee.builtin Builtin.len, args := #[Operand.tmp 40], argTypes := #[81] }, type := 3, pos := "redo.go:88", after := #[{ on := 18, ground := Ground.data }], guard := none }) (v := ?_) rfl (by kernel_rfl) (by kernel_rfl) (by kernel_rfl) (fun _ _ _ h => h) (Or.inl ⟨by rfl, ?_⟩) hHeld ?_
      rotate_left
      · (intro W1 hSw; (try dsimp only at hSw); go_simp; first | done | (with_reducible rfl))
      try simp only [Act.put, List.setIfInBounds_toArray, List.set_cons_zero, List.set_cons_succ]
      refine wpAnyH_take (i := 20) (oi := { dst := some 42, op := Op.call { callee := Callee.builtin Builtin.min, args := #[Operand.tmp 39, Operand.tmp 41], argTypes := #[3, 3] }, type := 3, pos := "redo.go:88", after := #[{ on := 17, ground := Ground.data }, { on := 19, ground := Ground.data }], guard := none }) (v := ?_) rfl (by kernel_rfl) (by kernel_rfl) (by kernel_rfl) (fun _ _ _ h => h) (Or.inl ⟨by rfl, ?_⟩) hHeld ?_
      rotate_left
      · (intro W1 hSw; (try dsimp only at hSw); go_simp; first | done | (with_reducible rfl))
      try simp only [Act.put, List.setIfInBounds_toArray, List.set_cons_zero, List.set_cons_succ]
      refine wpAnyH_take (i := 21) (oi := { dst := some 43, op := Op.slice 81 (Operand.tmp 34) (some (Operand.tmp 36)) (some (Operand.tmp 42)) none, type := 81, pos := "redo.go:88", after := #[{ on := 12, ground := Ground.data }, { on := 14, ground := Ground.data }, { on := 20, ground := Ground.data }], guard := none }) (v := ?_) rfl (by kernel_rfl) (by kernel_rfl) (by kernel_rfl) (fun _ _ _ h => h) (Or.inl ⟨by rfl, ?_⟩) hHeld ?_
      rotate_left
      · (intro W1 hSw; (try dsimp only at hSw); go_simp; first | done | (with_reducible rfl))
      try simp only [Act.put, List.setIfInBounds_toArray, List.set_cons_zero, List.set_cons_succ]
      refine wpAnyH_ready (rs := [11]) (by kernel_rfl) (by simp) ?_
      refine AllReadyH.cons (o := { dst := some 33, op := Op.call { callee := Callee.value (Operand.func 65), args := #[Operand.tmp 29, Operand.tmp 31, Operand.tmp 32], argTypes := #[25, 3, 3] }, type := 3, pos := "redo.go:88", after := #[{ on := 7, ground := Ground.data }, { on := 9, ground := Ground.data }, { on := 10, ground := Ground.data }], guard := none }) rfl (fun K hK => ?_) AllReadyH.nil
      rw [if_pos (by rfl)]
      go_simp
      go_at_call 65
      refine HSC.out.mono ?_
      rintro e0 x ⟨rfl, rfl⟩
      refine hK.out _ _ hHeld (fun hHeld => ?_)
      clear hK K
      try simp only [Act.put, List.setIfInBounds_toArray, List.set_cons_zero, List.set_cons_succ]
      refine wpAnyH_ready (rs := [22]) (by kernel_rfl) (by simp) ?_
      refine AllReadyH.cons (o := { dst := some 44, op := Op.call { callee := Callee.value (Operand.func 267), args := #[Operand.tmp 25, Operand.tmp 33, Operand.tmp 43], argTypes := #[25, 3, 81] }, type := 30, pos := "redo.go:88", after := #[{ on := 3, ground := Ground.data }, { on := 11, ground := Ground.data }, { on := 21, ground := Ground.data }, { on := 11, ground := Ground.chain }], guard := none }) rfl (fun K hK => ?_) AllReadyH.nil
      rw [if_pos (by rfl)]
      go_simp
      go_at_call 267
      refine HWT.out.mono ?_
      rintro e0 w3 ⟨rfl, now3, wait3, ws3, D3, T3, B3⟩
      refine hK.out _ _ (KEEP.out _ T3) (fun hHeld => ?_)
      clear hK K
      try simp only [Act.put, List.setIfInBounds_toArray, List.set_cons_zero, List.set_cons_succ]
      refine wpAnyH_take (i := 23) (oi := { dst := some 10, op := Op.assign (Operand.tmp 44), type := 30, pos := "redo.go:88", after := #[{ on := 22, ground := Ground.data }, { on := 22, ground := Ground.chain }, { on := 0, ground := Ground.phase }, { on := 1, ground := Ground.phase }, { on := 2, ground := Ground.phase }, { on := 3, ground := Ground.phase }, { on := 4, ground := Ground.phase }, { on := 5, ground := Ground.phase }, { on := 6, ground := Ground.phase }, { on := 7, ground := Ground.phase }, { on := 8, ground := Ground.phase }, { on := 9, ground := Ground.phase }, { on := 10, ground := Ground.phase }, { on := 11, ground := Ground.phase }, { on := 12, ground := Ground.phase }, { on := 13, ground := Ground.phase }, { on := 14, ground := Ground.phase }, { on := 15, ground := Ground.phase }, { on := 16, ground := Ground.phase }, { on := 17, ground := Ground.phase }, { on := 18, ground := Ground.phase }, { on := 19, ground := Ground.phase }, { on := 20, ground := Ground.phase }, { on := 21, ground := Ground.phase }, { on := 22, ground := Ground.phase }], guard := none }) (v := ?_) rfl (by kernel_rfl) (by kernel_rfl) (by kernel_rfl) (fun _ _ _ h => h) (Or.inl ⟨by rfl, ?_⟩) hHeld ?_
      rotate_left
      · (intro W1 hSw; (try dsimp only at hSw); go_simp; first | done | (with_reducible rfl))
      try simp only [Act.put, List.setIfInBounds_toArray, List.set_cons_zero, List.set_cons_succ]
      refine wpAnyH_done (by kernel_rfl) ?_ _
      have Z := hid (FIN.out _ _ _ _ D3 T3 B3)
      clear D3 T3 B3 hHeld KEEP
      go_wp2_with fail
      go_roundw
      case rel =>
        obtain ⟨j1, k1, n1, t1, s1, -, a1, a2, a3, a4, a5, a6⟩ := Z.out
        exact ⟨j1, k1, n1, t1, s1, rfl, a1, a2, a3, a4, a5, a6⟩
      case measure => simp [intOf]; omega
      -- END REGION secs
    · have hnlt : ¬ (j : Int) * 64 < (xs.length : Int) := by omega
      have KL : Blk wr L 152 lc := HL0.out.tfr HT.out (by decide)
      have l0 : wr.cell? ⟨L, 0, none⟩ = some (.pointer (some ⟨D, 0, none⟩)) := (KL.cell 0).trans h0
      have HSY := hid (drum_sync wr N D G M n good now' wait' k' ws' HD.out (Nat.le_trans HNN.out HW.out.size))
      have HKL : Hid (∀ W, TFr drmT w1 W → W.cell? ⟨L, 0, none⟩ = some (.pointer (some ⟨D, 0, none⟩)) ∧ W.cell? ⟨w.heap.size, 0, none⟩ = some (.int .i64 (num : Int)) ∧ W.cell? ⟨w.heap.size, 1, none⟩ = some (.int .i64 (bank : Int)) ∧ W.cell? ⟨w.heap.size, 2, none⟩ = some (.int .i64 (len : Int))) := fun W hW => ⟨((HL0.out.tfr hW (by decide)).cell 0).trans h0, (HK0.out.tfr hW (by decide)).cell 0, (HK0.out.tfr hW (by decide)).cell 1, (HK0.out.tfr hW (by decide)).cell 2⟩
      clear KL
      go_wp2_with fail
      refine HSY.out.mono ?_
      rintro e0 w4 ⟨rfl, good4, D4, T4, B4⟩
      have HD4 := hid D4
      have HT4 := hid (HT.out.trans T4)
      have HB4 := hid (HW.out.trans B4)
      have HZ4 : Hid (N ≤ w4.heap.size) := Nat.le_trans HNN.out (Nat.le_trans HW.out.size B4.size)
      have HS4 := hid (HKL.out w4 HT4.out)
      have hn2 : num % 2 < n := by omega
      have hnr : ((num : Int) % 2) = ((num % 2 : Nat) : Int) := by omega
      have KEEP : Hid (∀ W, TFr drmT w4.drew W → W.cell? ⟨L, 0, none⟩ = some (.pointer (some ⟨D, 0, none⟩)) ∧ W.cell? ⟨w.heap.size, 0, none⟩ = some (.int .i64 (num : Int)) ∧ W.cell? ⟨w.heap.size, 1, none⟩ = some (.int .i64 (bank : Int)) ∧ W.cell? ⟨w.heap.size, 2, none⟩ = some (.int .i64 (len : Int))) := fun W hW => HKL.out W (HT4.out.trans hW)
      clear D4 T4 B4 l0 HSY HD HW HT
      go_wp2_with fail
      -- REGION head
      refine wp_region_held_drew (S := fun W => W.cell? ⟨L, 0, none⟩ = some (.pointer (some ⟨D, 0, none⟩)) ∧ W.cell? ⟨w.heap.size, 0, none⟩ = some (.int .i64 (num : Int)) ∧ W.cell? ⟨w.heap.size, 1, none⟩ = some (.int .i64 (bank : Int)) ∧ W.cell? ⟨w.heap.size, 2, none⟩ = some (.int .i64 (len : Int))) (by kernel_rfl) (by exact HS4.out) (fun hHeld => ?_)
      have HD0B := hid (HD4.out.below (below_drew w4))
      have HZB : Hid (N ≤ w4.drew.heap.size) := HZ4.out
      have HBB4 := hid (HB4.out.trans ((below_drew w4).mono HZ4.out))
      have HTB := hid (HT4.out.trans (.of_below (below_drew w4)))
      have KEEPC := KEEP
      have KEEPB : Hid (∀ W, Below w4.drew.heap.size w4.drew W → W.cell? ⟨L, 0, none⟩ = some (.pointer (some ⟨D, 0, none⟩)) ∧ W.cell? ⟨w.heap.size, 0, none⟩ = some (.int .i64 (num : Int)) ∧ W.cell? ⟨w.heap.size, 1, none⟩ = some (.int .i64 (bank : Int)) ∧ W.cell? ⟨w.heap.size, 2, none⟩ = some (.int .i64 (len : Int))) := fun W hW => KEEP.out W (.of_below hW)
      clear KEEP HKL HS4
      generalize World.drew w4 = x0 at *
      refine wpAnyH_take (i := 0) (oi := { dst := some 56, op := Op.move (Operand.tmp 0), type := 77, pos := "redo.go:95", after := #[], guard := none }) (v := ?_) rfl (by kernel_rfl) (by kernel_rfl) (by kernel_rfl) (fun _ _ _ h => h) (Or.inl ⟨by rfl, ?_⟩) hHeld ?_
      rotate_left
      · (intro W1 hSw; (try dsimp only at hSw); go_simp; first | done | (with_reducible rfl))
      try simp only [Act.put, List.setIfInBounds_toArray, List.set_cons_zero, List.set_cons_succ]
      refine wpAnyH_take (i := 1) (oi := { dst := some 57, op := Op.nilCheck (Operand.tmp 56), type := 0, pos := "redo.go:95", after := #[{ on := 0, ground := Ground.data }], guard := none }) (v := ?_) rfl (by kernel_rfl) (by kernel_rfl) (by kernel_rfl) (fun _ _ _ h => h) (Or.inl ⟨by rfl, ?_⟩) hHeld ?_
      rotate_left
      · (intro W1 hSw; (try dsimp only at hSw); go_simp; first | done | (with_reducible rfl))
      try simp only [Act.put, List.setIfInBounds_toArray, List.set_cons_zero, List.set_cons_succ]
      refine wpAnyH_take (i := 2) (oi := { dst := some 58, op := Op.fieldAddr 152 (Operand.tmp 57) 0, type := 0, pos := "redo.go:95", after := #[{ on := 1, ground := Ground.data }], guard := none }) (v := ?_) rfl (by kernel_rfl) (by kernel_rfl) (by kernel_rfl) (fun _ _ _ h => h) (Or.inl ⟨by rfl, ?_⟩) hHeld ?_
      rotate_left
      · (intro W1 hSw; (try dsimp only at hSw); go_simp; first | done | (with_reducible rfl))
      try simp only [Act.put, List.setIfInBounds_toArray, List.set_cons_zero, List.set_cons_succ]
      refine wpAnyH_take (i := 3) (oi := { dst := some 59, op := Op.load 25 (Operand.tmp 58), type := 25, pos := "redo.go:95", after := #[{ on := 2, ground := Ground.data }], guard := none }) (v := ?_) rfl (by kernel_rfl) (by kernel_rfl) (by kernel_rfl) (fun _ _ _ h => h) (Or.inl ⟨by rfl, ?_⟩) hHeld ?_
      rotate_left
      · (intro W1 hSw; (try dsimp only at hSw); go_simp; first | done | (with_reducible rfl))
      try simp only [Act.put, List.setIfInBounds_toArray, List.set_cons_zero, List.set_cons_succ]
      refine wpAnyH_take (i := 4) (oi := { dst := some 60, op := Op.fieldAddr 149 (Operand.tmp 5) 0, type := 0, pos := "redo.go:95", after := #[], guard := none }) (v := ?_) rfl (by kernel_rfl) (by kernel_rfl) (by kernel_rfl) (fun _ _ _ h => h) (Or.inl ⟨by rfl, ?_⟩) hHeld ?_
      rotate_left
      · (intro W1 hSw; (try dsimp only at hSw); go_simp; first | done | (with_reducible rfl))
      try simp only [Act.put, List.setIfInBounds_toArray, List.set_cons_zero, List.set_cons_succ]
      refine wpAnyH_take (i := 5) (oi := { dst := some 61, op := Op.load 3 (Operand.tmp 60), type := 3, pos := "redo.go:95", after := #[{ on := 4, ground := Ground.data }], guard := none }) (v := ?_) rfl (by kernel_rfl) (by kernel_rfl) (by kernel_rfl) (fun _ _ _ h => h) (Or.inl ⟨by rfl, ?_⟩) hHeld ?_
      rotate_left
      · (intro W1 hSw; (try dsimp only at hSw); go_simp; first | done | (with_reducible rfl))
      try simp only [Act.put, List.setIfInBounds_toArray, List.set_cons_zero, List.set_cons_succ]
      refine wpAnyH_take (i := 6) (oi := { dst := some 62, op := Op.binOp BinOp.rem 3 (Operand.tmp 61) (Operand.const (Value.int IntKind.i64 2)) 3, type := 3, pos := "redo.go:95", after := #[{ on := 5, ground := Ground.data }], guard := none }) (v := ?_) rfl (by kernel_rfl) (by kernel_rfl) (by kernel_rfl) (fun _ _ _ h => h) (Or.inl ⟨by rfl, ?_⟩) hHeld ?_
      rotate_left
      · (intro W1 hSw; (try dsimp only at hSw); go_simp; first | done | (with_reducible rfl))
      try simp only [Act.put, List.setIfInBounds_toArray, List.set_cons_zero, List.set_cons_succ]
      refine wpAnyH_take (i := 7) (oi := { dst := some 63, op := Op.fieldAddr 149 (Operand.tmp 5) 0, type := 0, pos := "redo.go:95", after := #[], guard := none }) (v := ?_) rfl (by kernel_rfl) (by kernel_rfl) (by kernel_rfl) (fun _ _ _ h => h) (Or.inl ⟨by rfl, ?_⟩) hHeld ?_
      rotate_left
      · (intro W1 hSw; (try dsimp only at hSw); go_simp; first | done | (with_reducible rfl))
      try simp only [Act.put, List.setIfInBounds_toArray, List.set_cons_zero, List.set_cons_succ]
      refine wpAnyH_take (i := 8) (oi := { dst := some 64, op := Op.load 3 (Operand.tmp 63), type := 3, pos := "redo.go:95", after := #[{ on := 7, ground := Ground.data }], guard := none }) (v := ?_) rfl (by kernel_rfl) (by kernel_rfl) (by kernel_rfl) (fun _ _ _ h => h) (Or.inl ⟨by rfl, ?_⟩) hHeld ?_
      rotate_left
      · (intro W1 hSw; (try dsimp only at hSw); go_simp; first | done | (with_reducible rfl))
      try simp only [Act.put, List.setIfInBounds_toArray, List.set_cons_zero, List.set_cons_succ]
      refine wpAnyH_take (i := 9) (oi := { dst := some 65, op := Op.fieldAddr 149 (Operand.tmp 5) 1, type := 0, pos := "redo.go:95", after := #[], guard := none }) (v := ?_) rfl (by kernel_rfl) (by kernel_rfl) (by kernel_rfl) (fun _ _ _ h => h) (Or.inl ⟨by rfl, ?_⟩) hHeld ?_
      rotate_left
      · (intro W1 hSw; (try dsimp only at hSw); go_simp; first | done | (with_reducible rfl))
      try simp only [Act.put, List.setIfInBounds_toArray, List.set_cons_zero, List.set_cons_succ]
      refine wpAnyH_take (i := 10) (oi := { dst := some 66, op := Op.load 3 (Operand.tmp 65), type := 3, pos := "redo.go:95", after := #[{ on := 9, ground := Ground.data }], guard := none }) (v := ?_) rfl (by kernel_rfl) (by kernel_rfl) (by kernel_rfl) (fun _ _ _ h => h) (Or.inl ⟨by rfl, ?_⟩) hHeld ?_
      rotate_left
      · (intro W1 hSw; (try dsimp only at hSw); go_simp; first | done | (with_reducible rfl))
      try simp only [Act.put, List.setIfInBounds_toArray, List.set_cons_zero, List.set_cons_succ]
      refine wpAnyH_take (i := 11) (oi := { dst := some 67, op := Op.fieldAddr 149 (Operand.tmp 5) 2, type := 0, pos := "redo.go:95", after := #[], guard := none }) (v := ?_) rfl (by kernel_rfl) (by kernel_rfl) (by kernel_rfl) (fun _ _ _ h => h) (Or.inl ⟨by rfl, ?_⟩) hHeld ?_
      rotate_left
      · (intro W1 hSw; (try dsimp only at hSw); go_simp; first | done | (with_reducible rfl))
      try simp only [Act.put, List.setIfInBounds_toArray, List.set_cons_zero, List.set_cons_succ]
      refine wpAnyH_take (i := 12) (oi := { dst := some 68, op := Op.load 3 (Operand.tmp 67), type := 3, pos := "redo.go:95", after := #[{ on := 11, ground := Ground.data }], guard := none }) (v := ?_) rfl (by kernel_rfl) (by kernel_rfl) (by kernel_rfl) (fun _ _ _ h => h) (Or.inl ⟨by rfl, ?_⟩) hHeld ?_
      rotate_left
      · (intro W1 hSw; (try dsimp only at hSw); go_simp; first | done | (with_reducible rfl))
      try simp only [Act.put, List.setIfInBounds_toArray, List.set_cons_zero, List.set_cons_succ]
      refine wpAnyH_ready (rs := [13]) (by kernel_rfl) (by simp) ?_
      refine AllReadyH.cons (o := { dst := some 69, op := Op.buildSlice 31 3 #[(0, Operand.tmp 64), (1, Operand.tmp 66), (2, Operand.tmp 68)], type := 31, pos := "redo.go:95", after := #[{ on := 8, ground := Ground.data }, { on := 10, ground := Ground.data }, { on := 12, ground := Ground.data }], guard := none }) rfl (fun K hK => ?_) AllReadyH.nil
      rw [if_pos (by rfl)]
      go_simp
      have b1 := below_alloc x0 (.cells #[.int .i64 (num : Int), .int .i64 (bank : Int), .int .i64 (len : Int)] 3)
      have k13 := Blk.new x0 3 [.int .i64 (num : Int), .int .i64 (bank : Int), .int .i64 (len : Int)]
      refine hK.out _ _ (KEEPB.out _ b1) (fun hHeld => ?_)
      generalize World.alloc x0 (.cells #[.int .i64 (num : Int), .int .i64 (bank : Int), .int .i64 (len : Int)] 3) = x1 at *
      clear hK K
      try simp only [Act.put, List.setIfInBounds_toArray, List.set_cons_zero, List.set_cons_succ]
      refine wpAnyH_ready (rs := [14]) (by kernel_rfl) (by simp) ?_
      refine AllReadyH.cons (o := { dst := some 70, op := Op.call { callee := Callee.value (Operand.func 116), args := #[Operand.const (Value.slice none 0 0), Operand.tmp 69], argTypes := #[81, 31] }, type := 81, pos := "redo.go:95", after := #[{ on := 13, ground := Ground.data }], guard := none }) rfl (fun K hK => ?_) AllReadyH.nil
      rw [if_pos (by rfl)]
      go_simp
      go_at_call 116
      refine (leb_int x1 none 0 [] (x0.heap.size) [(num : Int), (bank : Int), (len : Int)] (bsrc_nil _) (ints_three (k13.below (Below.refl _ _) k13.lt)) (by simp) (by simp)).mono ?_
      rintro e x2 ⟨A1, c1, ys, rfl, q1, hy1, b2⟩
      simp only [List.length_cons, List.length_nil] at hy1
      refine hK.out _ _ (KEEPB.out _ (bstep0 b1 b2)) (fun hHeld => ?_)
      clear hK K
      try simp only [Act.put, List.setIfInBounds_toArray, List.set_cons_zero, List.set_cons_succ]
      refine wpAnyH_ready (rs := [15]) (by kernel_rfl) (by simp) ?_
      refine AllReadyH.cons (o := { dst := some 71, op := Op.call { callee := Callee.value (Operand.func 267), args := #[Operand.tmp 59, Operand.tmp 62, Operand.tmp 70], argTypes := #[25, 3, 81] }, type := 30, pos := "redo.go:95", after := #[{ on := 3, ground := Ground.data }, { on := 6, ground := Ground.data }, { on := 14, ground := Ground.data }, { on := 14, ground := Ground.chain }], guard := none }) rfl (fun K hK => ?_) AllReadyH.nil
      rw [if_pos (by rfl)]
      go_simp
      go_at_call 267
      have D5 := HD0B.out.below (bstep0 b1 b2)
      refine (drum_write x2 N D G M n good4 now' (.slice none 0 0) 0 [] (num % 2) A1 c1 ys D5 hn2 hn (by omega) (Nat.le_trans HZB.out (bstep0 b1 b2).size) q1.toSrc (far_drum q1 D5.blk) (by omega)).mono ?_
      rintro e0 w5 ⟨rfl, now5, wait5, ws5, z1, z2, z3⟩
      have T5 := hid ((TFr.of_below (ts := drmT) (bstep0 b1 b2)).trans z2)
      refine hK.out _ _ (KEEPC.out _ T5.out) (fun hHeld => ?_)
      clear hK K
      try simp only [Act.put, List.setIfInBounds_toArray, List.set_cons_zero, List.set_cons_succ]
      refine wpAnyH_take (i := 16) (oi := { dst := some 12, op := Op.assign (Operand.tmp 71), type := 30, pos := "redo.go:95", after := #[{ on := 15, ground := Ground.data }, { on := 15, ground := Ground.chain }, { on := 0, ground := Ground.phase }, { on := 1, ground := Ground.phase }, { on := 2, ground := Ground.phase }, { on := 3, ground := Ground.phase }, { on := 4, ground := Ground.phase }, { on := 5, ground := Ground.phase }, { on := 6, ground := Ground.phase }, { on := 7, ground := Ground.phase }, { on := 8, ground := Ground.phase }, { on := 9, ground := Ground.phase }, { on := 10, ground := Ground.phase }, { on := 11, ground := Ground.phase }, { on := 12, ground := Ground.phase }, { on := 13, ground := Ground.phase }, { on := 14, ground := Ground.phase }, { on := 15, ground := Ground.phase }], guard := none }) (v := ?_) rfl (by kernel_rfl) (by kernel_rfl) (by kernel_rfl) (fun _ _ _ h => h) (Or.inl ⟨by rfl, ?_⟩) hHeld ?_
      rotate_left
      · (intro W1 hSw; (try dsimp only at hSw); go_simp; first | done | (with_reducible rfl))
      try simp only [Act.put, List.setIfInBounds_toArray, List.set_cons_zero, List.set_cons_succ]
      refine wpAnyH_done (by kernel_rfl) ?_ _
      have HD5 := hid z1
      have HB5 := hid ((Below.mono (bstep0 b1 b2) HZB.out).trans z3)
      have HT5 := hid T5.out
      have l0 := hHeld.1
      clear hHeld z1 z2 z3 KEEPB KEEPC
      go_wp2_with fail
      refine (drum_sync w5 N D G M n good4 now5 wait5 _ ws5 HD5.out (Nat.le_trans HZB.out HB5.out.size)).mono ?_
      rintro e0 w6 ⟨rfl, good6, z1, z2, z3⟩
      go_wp2_with fail
      go_ret
      exact ⟨rfl, good6, now5, z1, HT0.out.trans (HTB.out.trans (HT5.out.trans z2)), HBB4.out.trans (HB5.out.trans z3)⟩
      -- END REGION head
end Go.Proofs.YtdfkdgnhpdgphaaGreatDoor

/-
  redo.lays and redo.Append.
-/
namespace Go.Proofs.YtdfkdgnhpdgphaaGreatDoor
open Go.RowKit Go.Proofs.Lig

set_option maxRecDepth 100000 in
/-- A text's bytes as a string. -/
theorem str_of (w : World) (base : Nat) (A : Option Addr) (cap : Nat) (xs : List Int) (h : BRow w base A cap xs) : ∃ s : ByteArray, s.size = xs.length ∧ (convert 81 9 (.slice A xs.length cap)).run Tryz.prog w = .ok (.string s) w := by
  rcases h.own.2 with ⟨hv, h0⟩ | ⟨g, cap', cur, hv, _⟩
  · injection hv with e1 e2 e3
    subst e1
    exact ⟨ByteArray.empty, by rw [h0]; rfl, run_convert_bytes_nil w 81 5 Tryz.underlying81 rfl _ _ 9 rfl⟩
  · injection hv with e1
    subst e1
    refine ⟨strOfNums xs, strOfNums_size xs, run_convert_bytes_arg w 81 5 Tryz.underlying81 rfl g 0 xs.length cap xs rfl (fun i hi => ?_) 9 rfl⟩
    have := (h.src.1 _ rfl).2 i (.int .u8 (xs.getD i 0)) (by simp [u8s, List.getElem?_map, List.getElem?_eq_getElem hi, List.getD])
    have e2 : (⟨g, 0, none⟩ : Addr).add i = ⟨g, 0 + i, none⟩ := by
      unfold Addr.add
      split
      · next hz => subst hz; rfl
      · rfl
    rw [e2] at this
    exact this

set_option maxRecDepth 100000 in
set_option maxHeartbeats 4000000 in
theorem redo_lays (w : World) (N D G M n L : Nat) (good now : List Int) (wait : Value) (k : Nat) (ws : List Value) (h : Drm w N D G M n good now wait k ws) (hk : k ≤ 100) (hn4 : 4 ≤ n) (hn : n ≤ 200) (hN : N ≤ w.heap.size) (hNL : N ≤ L)
    (num bank len : Nat) (v : Value) (cnt : Int) (hL : Blk w L 152 (logCells D (num : Int) (bank : Int) (len : Int) v cnt)) (hnum : num ≤ 1000)
    (bk : Nat) (hb : bk ≤ 1) (base : Nat) (A : Option Addr) (cap : Nat) (xs : List Int) (hR : BRow w base A cap xs) (base2 : Nat) (SA : Option Addr) (sc : Nat) (ss : List Int) (hS : BRow w base2 SA sc ss) (hss : ss.length ≤ 4000) (hx : xs.length + ss.length + 10 ≤ 64 * ((n - 2) / 2)) (cnt' : Int) :
    Calls Tryz.prog 121 #[.pointer (some ⟨L, 0, none⟩), .int .i64 (bk : Int), .slice A xs.length cap, .slice SA ss.length sc, .int .i64 cnt'] w fun e w' => e = .returned (.int .i64 0) ∧ ∃ good' now' A' cap' ys, Drm w' N D G M n good' now' (.slice none 0 0) 0 [] ∧ Blk w' L 152 (logCells D ((num : Int) + 1) (bk : Int) ((List.length ys : Nat) : Int) (.slice A' ys.length cap') cnt') ∧ BRow w' w.heap.size A' cap' ys ∧ ys.length ≤ xs.length + ss.length + 10 ∧ TFr (152 :: drmT) w w' ∧ Below N w w' := by
  obtain ⟨s, hs1, hcv⟩ := str_of w base2 SA sc ss hS
  have B1 := below_alloc w (.cells #[.string s] 9)
  have K1 := Blk.new w 9 [.string s]
  have HST := hid (leb_str (w.alloc (.cells #[.string s] 9)) A cap xs (some ⟨w.heap.size, 0, none⟩) 1 [s] ss.length (hR.toSrc.below B1) (strs_one K1) (by omega) (by simp) (by omega) (fun q hq => by
    obtain rfl : q = s := by simpa using hq
    omega))
  have HD0 := hid h
  have HL0 := hid hL
  have HB1 := hid B1
  have HNN := hid hN
  clear h hL B1 K1 hR hS hN hs1
  go_enter Tryz.func121, Tryz.ntmps121
  go_wp2_with fail
  refine HST.out.mono ?_
  rintro e w2 ⟨A2, c2, ys, rfl, q2, hy2, b2⟩
  simp only [List.length_cons, List.length_nil] at hy2
  have HB2 := hid (bstep0 HB1.out b2)
  have HR2 := hid q2
  have HD2 := hid (HD0.out.below HB2.out)
  have HL2 := hid (HL0.out.below HB2.out HL0.out.lt)
  have hyl : ys.length ≤ xs.length + ss.length + 10 := by omega
  have HBK := hid (redo_bank HD2.out hn4 hn)
  have l0 : w2.cell? ⟨L, 0, none⟩ = some (.pointer (some ⟨D, 0, none⟩)) := HL2.out.cell 0
  have l1 : w2.cell? ⟨L, 1, none⟩ = some (.int .i64 (num : Int)) := HL2.out.cell 1
  have l6 : w2.cell? ⟨L, 6, none⟩ = some (.bool false) := HL2.out.cell 6
  clear q2 b2 hcv HST
  go_wp2_with fail
  refine HBK.out.mono ?_
  rintro e w3 ⟨rfl, rfl⟩
  obtain ⟨b, hbb⟩ : ∃ b, (n - 2) / 2 = b := ⟨_, rfl⟩
  have hyb : ys.length ≤ 64 * b := by omega
  have hb9 : (b : Int) ≤ 99 := by omega
  have hb0 : (0 : Int) ≤ (b : Int) := by omega
  have hnI : (num : Int) ≤ 1000 := by omega
  have hn0 : (0 : Int) ≤ (num : Int) := by omega
  have HWR := hid (fun W (hB : Below w2.heap.size w2 W) => redo_writes W N D G M n L good now wait k ws (HD2.out.below hB) hk hn4 hn (Nat.le_trans HNN.out (Nat.le_trans HB2.out.size hB.size)) _ (HL2.out.below hB HL2.out.lt) rfl (num + 1) bk ys.length hb w.heap.size.succ A2 c2 ys ⟨own_tfr (ts := []) (HR2.out.low (by simp)).own (.of_below hB) (by simp), HR2.out.bytes⟩ (by rw [hbb]; exact hyb) xs.length (by omega))
  rw [hbb]
  have HBB := hid hbb
  have HNA : Hid (¬ ((b : Int) * 64 < (ys.length : Int)) ∧ ¬ ((1099511627776 : Int) ≤ (num : Int))) := by show _ ∧ _; omega
  have HQ1 := hid ((below_alloc w2 (.cells #[.int .i64 ((num : Int) + 1), .int .i64 (bk : Int), .int .i64 (ys.length : Int)] 149)))
  clear hbb
  go_wp2_with fail
  refine (HWR.out _ HQ1.out).mono ?_
  rintro e w5 ⟨rfl, good5, now5, D5, T5, B5⟩
  have HL5 := hid ((HL2.out.below HQ1.out HL2.out.lt).tfr T5 (by decide))
  have HD5 := hid D5
  have HT5 : Hid (TFr (152 :: drmT) w w5) := (TFr.of_below (bstep0 HB2.out HQ1.out)).trans (T5.mono (by simp +contextual))
  have HB5 : Hid (Below N w w5) := (Below.mono (bstep0 HB2.out HQ1.out) HNN.out).trans B5
  have HR5 : Hid (BRow w5 w.heap.size A2 c2 ys) := ⟨own_tfr (own_tfr (ts := []) (HR2.out.low (by simp)).own (.of_below HQ1.out) (by simp)) T5 (by decide), HR2.out.bytes⟩
  have HK5 := hid ((Blk.new w2 149 [.int .i64 ((num : Int) + 1), .int .i64 (bk : Int), .int .i64 (ys.length : Int)]).tfr T5 (by decide))
  have m0 := HK5.out.cell 0
  have m1 := HK5.out.cell 1
  have m2 := HK5.out.cell 2
  have n1 : w5.cell? ⟨L, 1, none⟩ = some (.int .i64 (num : Int)) := HL5.out.cell 1
  have n2 : w5.cell? ⟨L, 2, none⟩ = some (.int .i64 (bank : Int)) := HL5.out.cell 2
  have n3 : w5.cell? ⟨L, 3, none⟩ = some (.int .i64 (len : Int)) := HL5.out.cell 3
  have n4 : w5.cell? ⟨L, 4, none⟩ = some v := HL5.out.cell 4
  have n5 : w5.cell? ⟨L, 5, none⟩ = some (.int .i64 cnt) := HL5.out.cell 5
  have f1 := HL5.out.frozen 1
  have f2 := HL5.out.frozen 2
  have f3 := HL5.out.frozen 3
  have f4 := HL5.out.frozen 4
  have f5 := HL5.out.frozen 5
  have hLl := HL5.out.lt
  clear D5 T5 B5 l0 l1 l6
  go_wp2_with fail
  go_ret
  have bl := ((((HL5.out.set_ 1 (.int .i64 ((num : Int) + 1))).set_ 2 (.int .i64 (bk : Int))).set_ 3 (.int .i64 (ys.length : Int))).set_ 4 (.slice A2 ys.length c2)).set_ 5 (.int .i64 cnt')
  have bb := ((((HB5.out.setCell (p := ⟨L, 1, none⟩) hNL (.int .i64 ((num : Int) + 1))).setCell (p := ⟨L, 2, none⟩) hNL (.int .i64 (bk : Int))).setCell (p := ⟨L, 3, none⟩) hNL (.int .i64 (ys.length : Int))).setCell (p := ⟨L, 4, none⟩) hNL (.slice A2 ys.length c2)).setCell (p := ⟨L, 5, none⟩) hNL (.int .i64 cnt')
  have fr := (((((Fr.refl [L] w5).setCell (p := ⟨L, 1, none⟩) (by simp) (.int .i64 ((num : Int) + 1))).setCell (p := ⟨L, 2, none⟩) (by simp) (.int .i64 (bk : Int))).setCell (p := ⟨L, 3, none⟩) (by simp) (.int .i64 (ys.length : Int))).setCell (p := ⟨L, 4, none⟩) (by simp) (.slice A2 ys.length c2)).setCell (p := ⟨L, 5, none⟩) (by simp) (.int .i64 cnt')
  have tf : TFr [152] w5 _ := TFr.of_fr fr (fun k hk => by
    obtain rfl : k = L := by simpa using hk
    exact ⟨_, _, _, HL5.out, by simp⟩)
  exact ⟨rfl, good5, now5, A2, c2, ys, HD5.out.tfr tf (by decide), bl, ⟨own_tfr HR5.out.own tf (by decide), HR5.out.bytes⟩, by omega, HT5.out.trans (tf.mono (by simp)), bb⟩

end Go.Proofs.YtdfkdgnhpdgphaaGreatDoor

/-
  redo.Append.
-/
namespace Go.Proofs.YtdfkdgnhpdgphaaGreatDoor
open Go.RowKit Go.Proofs.Lig

set_option maxRecDepth 100000 in
set_option maxHeartbeats 4000000 in
theorem redo_append (w : World) (N D G M n L : Nat) (good now : List Int) (wait : Value) (k : Nat) (ws : List Value) (h : Drm w N D G M n good now wait k ws) (hk : k ≤ 100) (hn4 : 4 ≤ n) (hn : n ≤ 200) (hN : N ≤ w.heap.size) (hNL : N ≤ L)
    (num bank len : Nat) (base : Nat) (A : Option Addr) (cap : Nat) (xs : List Int) (cnt : Int) (hc0 : 0 ≤ cnt) (hc1 : cnt ≤ 1000) (hL : Blk w L 152 (logCells D (num : Int) (bank : Int) (len : Int) (.slice A xs.length cap) cnt)) (hnum : num ≤ 1000)
    (hb : bank ≤ 1) (hR : BRow w base A cap xs) (base2 : Nat) (SA : Option Addr) (sc : Nat) (ss : List Int) (hS : BRow w base2 SA sc ss) (hss : ss.length ≤ 4000) (hx : xs.length + ss.length + 10 ≤ 64 * ((n - 2) / 2)) :
    Calls Tryz.prog 124 #[.pointer (some ⟨L, 0, none⟩), .slice SA ss.length sc] w fun e w' => e = .returned (.int .i64 0) ∧ ∃ good' now' A' cap' ys, Drm w' N D G M n good' now' (.slice none 0 0) 0 [] ∧ Blk w' L 152 (logCells D ((num : Int) + 1) (bank : Int) ((List.length ys : Nat) : Int) (.slice A' ys.length cap') (cnt + 1)) ∧ BRow w' w.heap.size A' cap' ys ∧ ys.length ≤ xs.length + ss.length + 10 ∧ TFr (152 :: drmT) w w' ∧ Below N w w' := by
  have HLY := hid (redo_lays w.drew N D G M n L good now wait k ws (h.below (below_drew w)) hk hn4 hn hN hNL num bank len _ cnt (hL.drew) hnum bank hb base A cap xs ⟨own_tfr (ts := []) hR.own (.of_below (below_drew w)) (by simp), hR.bytes⟩ base2 SA sc ss ⟨own_tfr (ts := []) hS.own (.of_below (below_drew w)) (by simp), hS.bytes⟩ hss hx (cnt + 1))
  have HT : Hid (TFr (152 :: drmT) w w.drew) := .of_below (below_drew w)
  have HB : Hid (Below N w w.drew) := (below_drew w).mono hN
  have l2 : w.drew.cell? ⟨L, 2, none⟩ = some (.int .i64 (bank : Int)) := hL.cell 2
  have l4 : w.drew.cell? ⟨L, 4, none⟩ = some (.slice A xs.length cap) := hL.cell 4
  have l5 : w.drew.cell? ⟨L, 5, none⟩ = some (.int .i64 cnt) := hL.cell 5
  have FIN : Hid (∀ w', (∃ good' now' A' cap' ys, Drm w' N D G M n good' now' (.slice none 0 0) 0 [] ∧ Blk w' L 152 (logCells D ((num : Int) + 1) (bank : Int) ((List.length ys : Nat) : Int) (.slice A' ys.length cap') (cnt + 1)) ∧ BRow w' w.drew.heap.size A' cap' ys ∧ ys.length ≤ xs.length + ss.length + 10 ∧ TFr (152 :: drmT) w.drew w' ∧ Below N w.drew w') →
      ∃ good' now' A' cap' ys, Drm w' N D G M n good' now' (.slice none 0 0) 0 [] ∧ Blk w' L 152 (logCells D ((num : Int) + 1) (bank : Int) ((List.length ys : Nat) : Int) (.slice A' ys.length cap') (cnt + 1)) ∧ BRow w' w.heap.size A' cap' ys ∧ ys.length ≤ xs.length + ss.length + 10 ∧ TFr (152 :: drmT) w w' ∧ Below N w w') := fun w' ⟨g', n', A', c', ys, z1, z2, z3, z4, z5, z6⟩ => ⟨g', n', A', c', ys, z1, z2, z3, z4, HT.out.trans z5, HB.out.trans z6⟩
  have hcw : IntKind.i64.wrap (cnt + 1) = cnt + 1 := i64_small (by omega) (by omega)
  clear h hR hS hL
  go_enter Tryz.func124, Tryz.ntmps124
  go_wp2_with fail
  -- REGION append
  refine wp_region_held_drew (S := fun _ => True) (by kernel_rfl) trivial (fun hHeld => ?_)
  refine wpAnyH_take (i := 0) (oi := { dst := some 7, op := Op.move (Operand.tmp 0), type := 77, pos := "redo.go:125", after := #[], guard := none }) (v := ?_) rfl (by kernel_rfl) (by kernel_rfl) (by kernel_rfl) (fun _ _ _ h => h) (Or.inl ⟨by rfl, ?_⟩) hHeld ?_
  rotate_left
  · (intro W1 hSw; (try dsimp only at hSw); go_simp; first | done | (with_reducible rfl))
  try simp only [Act.put, List.setIfInBounds_toArray, List.set_cons_zero, List.set_cons_succ]
  refine wpAnyH_take (i := 1) (oi := { dst := some 8, op := Op.move (Operand.tmp 0), type := 77, pos := "redo.go:125", after := #[], guard := none }) (v := ?_) rfl (by kernel_rfl) (by kernel_rfl) (by kernel_rfl) (fun _ _ _ h => h) (Or.inl ⟨by rfl, ?_⟩) hHeld ?_
  rotate_left
  · (intro W1 hSw; (try dsimp only at hSw); go_simp; first | done | (with_reducible rfl))
  try simp only [Act.put, List.setIfInBounds_toArray, List.set_cons_zero, List.set_cons_succ]
  refine wpAnyH_take (i := 2) (oi := { dst := some 9, op := Op.nilCheck (Operand.tmp 8), type := 0, pos := "redo.go:125", after := #[{ on := 1, ground := Ground.data }], guard := none }) (v := ?_) rfl (by kernel_rfl) (by kernel_rfl) (by kernel_rfl) (fun _ _ _ h => h) (Or.inl ⟨by rfl, ?_⟩) hHeld ?_
  rotate_left
  · (intro W1 hSw; (try dsimp only at hSw); go_simp; first | done | (with_reducible rfl))
  try simp only [Act.put, List.setIfInBounds_toArray, List.set_cons_zero, List.set_cons_succ]
  refine wpAnyH_take (i := 3) (oi := { dst := some 10, op := Op.fieldAddr 152 (Operand.tmp 9) 1, type := 0, pos := "redo.go:125", after := #[{ on := 2, ground := Ground.data }], guard := none }) (v := ?_) rfl (by kernel_rfl) (by kernel_rfl) (by kernel_rfl) (fun _ _ _ h => h) (Or.inl ⟨by rfl, ?_⟩) hHeld ?_
  rotate_left
  · (intro W1 hSw; (try dsimp only at hSw); go_simp; first | done | (with_reducible rfl))
  try simp only [Act.put, List.setIfInBounds_toArray, List.set_cons_zero, List.set_cons_succ]
  refine wpAnyH_take (i := 4) (oi := { dst := some 11, op := Op.fieldAddr 149 (Operand.tmp 10) 1, type := 0, pos := "redo.go:125", after := #[{ on := 3, ground := Ground.data }], guard := none }) (v := ?_) rfl (by kernel_rfl) (by kernel_rfl) (by kernel_rfl) (fun _ _ _ h => h) (Or.inl ⟨by rfl, ?_⟩) hHeld ?_
  rotate_left
  · (intro W1 hSw; (try dsimp only at hSw); go_simp; first | done | (with_reducible rfl))
  try simp only [Act.put, List.setIfInBounds_toArray, List.set_cons_zero, List.set_cons_succ]
  refine wpAnyH_take (i := 6) (oi := { dst := some 13, op := Op.move (Operand.tmp 0), type := 77, pos := "redo.go:125", after := #[], guard := none }) (v := ?_) rfl (by kernel_rfl) (by kernel_rfl) (by kernel_rfl) (fun _ _ _ h => h) (Or.inl ⟨by rfl, ?_⟩) hHeld ?_
  rotate_left
  · (intro W1 hSw; (try dsimp only at hSw); go_simp; first | done | (with_reducible rfl))
  try simp only [Act.put, List.setIfInBounds_toArray, List.set_cons_zero, List.set_cons_succ]
  refine wpAnyH_take (i := 7) (oi := { dst := some 14, op := Op.nilCheck (Operand.tmp 13), type := 0, pos := "redo.go:125", after := #[{ on := 6, ground := Ground.data }], guard := none }) (v := ?_) rfl (by kernel_rfl) (by kernel_rfl) (by kernel_rfl) (fun _ _ _ h => h) (Or.inl ⟨by rfl, ?_⟩) hHeld ?_
  rotate_left
  · (intro W1 hSw; (try dsimp only at hSw); go_simp; first | done | (with_reducible rfl))
  try simp only [Act.put, List.setIfInBounds_toArray, List.set_cons_zero, List.set_cons_succ]
  refine wpAnyH_take (i := 8) (oi := { dst := some 15, op := Op.fieldAddr 152 (Operand.tmp 14) 2, type := 0, pos := "redo.go:125", after := #[{ on := 7, ground := Ground.data }], guard := none }) (v := ?_) rfl (by kernel_rfl) (by kernel_rfl) (by kernel_rfl) (fun _ _ _ h => h) (Or.inl ⟨by rfl, ?_⟩) hHeld ?_
  rotate_left
  · (intro W1 hSw; (try dsimp only at hSw); go_simp; first | done | (with_reducible rfl))
  try simp only [Act.put, List.setIfInBounds_toArray, List.set_cons_zero, List.set_cons_succ]
  refine wpAnyH_take (i := 10) (oi := { dst := some 17, op := Op.move (Operand.tmp 1), type := 81, pos := "redo.go:125", after := #[], guard := none }) (v := ?_) rfl (by kernel_rfl) (by kernel_rfl) (by kernel_rfl) (fun _ _ _ h => h) (Or.inl ⟨by rfl, ?_⟩) hHeld ?_
  rotate_left
  · (intro W1 hSw; (try dsimp only at hSw); go_simp; first | done | (with_reducible rfl))
  try simp only [Act.put, List.setIfInBounds_toArray, List.set_cons_zero, List.set_cons_succ]
  refine wpAnyH_take (i := 11) (oi := { dst := some 18, op := Op.move (Operand.tmp 0), type := 77, pos := "redo.go:125", after := #[], guard := none }) (v := ?_) rfl (by kernel_rfl) (by kernel_rfl) (by kernel_rfl) (fun _ _ _ h => h) (Or.inl ⟨by rfl, ?_⟩) hHeld ?_
  rotate_left
  · (intro W1 hSw; (try dsimp only at hSw); go_simp; first | done | (with_reducible rfl))
  try simp only [Act.put, List.setIfInBounds_toArray, List.set_cons_zero, List.set_cons_succ]
  refine wpAnyH_take (i := 12) (oi := { dst := some 19, op := Op.nilCheck (Operand.tmp 18), type := 0, pos := "redo.go:125", after := #[{ on := 11, ground := Ground.data }], guard := none }) (v := ?_) rfl (by kernel_rfl) (by kernel_rfl) (by kernel_rfl) (fun _ _ _ h => h) (Or.inl ⟨by rfl, ?_⟩) hHeld ?_
  rotate_left
  · (intro W1 hSw; (try dsimp only at hSw); go_simp; first | done | (with_reducible rfl))
  try simp only [Act.put, List.setIfInBounds_toArray, List.set_cons_zero, List.set_cons_succ]
  refine wpAnyH_take (i := 13) (oi := { dst := some 20, op := Op.fieldAddr 152 (Operand.tmp 19) 3, type := 0, pos := "redo.go:125", after := #[{ on := 12, ground := Ground.data }], guard := none }) (v := ?_) rfl (by kernel_rfl) (by kernel_rfl) (by kernel_rfl) (fun _ _ _ h => h) (Or.inl ⟨by rfl, ?_⟩) hHeld ?_
  rotate_left
  · (intro W1 hSw; (try dsimp only at hSw); go_simp; first | done | (with_reducible rfl))
  try simp only [Act.put, List.setIfInBounds_toArray, List.set_cons_zero, List.set_cons_succ]
  refine wpAnyH_ready (rs := [5, 9, 14]) (by kernel_rfl) (by simp) ?_
  refine AllReadyH.cons (o := { dst := some 12, op := Op.load 3 (Operand.tmp 11), type := 3, pos := "redo.go:125", after := #[{ on := 4, ground := Ground.data }], guard := none }) rfl (fun K hK => ?_) (AllReadyH.cons (o := { dst := some 16, op := Op.load 81 (Operand.tmp 15), type := 81, pos := "redo.go:125", after := #[{ on := 8, ground := Ground.data }], guard := none }) rfl (fun K hK => ?_) (AllReadyH.cons (o := { dst := some 21, op := Op.load 3 (Operand.tmp 20), type := 3, pos := "redo.go:125", after := #[{ on := 13, ground := Ground.data }], guard := none }) rfl (fun K hK => ?_) AllReadyH.nil))
  · rw [if_pos (by rfl)]
    go_simp
    refine hK.out _ _ trivial (fun hHeld => ?_)
    clear hK K
    try simp only [Act.put, List.setIfInBounds_toArray, List.set_cons_zero, List.set_cons_succ]
    refine wpAnyH_ready (rs := [9, 14]) (by kernel_rfl) (by simp) ?_
    refine AllReadyH.cons (o := { dst := some 16, op := Op.load 81 (Operand.tmp 15), type := 81, pos := "redo.go:125", after := #[{ on := 8, ground := Ground.data }], guard := none }) rfl (fun K hK => ?_) (AllReadyH.cons (o := { dst := some 21, op := Op.load 3 (Operand.tmp 20), type := 3, pos := "redo.go:125", after := #[{ on := 13, ground := Ground.data }], guard := none }) rfl (fun K hK => ?_) AllReadyH.nil)
    · rw [if_pos (by rfl)]
      go_simp
      refine hK.out _ _ trivial (fun hHeld => ?_)
      clear hK K
      try simp only [Act.put, List.setIfInBounds_toArray, List.set_cons_zero, List.set_cons_succ]
      refine wpAnyH_ready (rs := [14]) (by kernel_rfl) (by simp) ?_
      refine AllReadyH.cons (o := { dst := some 21, op := Op.load 3 (Operand.tmp 20), type := 3, pos := "redo.go:125", after := #[{ on := 13, ground := Ground.data }], guard := none }) rfl (fun K hK => ?_) AllReadyH.nil
      rw [if_pos (by rfl)]
      go_simp
      refine hK.out _ _ trivial (fun hHeld => ?_)
      clear hK K
      try simp only [Act.put, List.setIfInBounds_toArray, List.set_cons_zero, List.set_cons_succ]
      refine wpAnyH_take (i := 15) (oi := { dst := some 22, op := Op.binOp BinOp.add 3 (Operand.tmp 21) (Operand.const (Value.int IntKind.i64 1)) 3, type := 3, pos := "redo.go:125", after := #[{ on := 14, ground := Ground.data }], guard := none }) (v := ?_) rfl (by kernel_rfl) (by kernel_rfl) (by kernel_rfl) (fun _ _ _ h => h) (Or.inl ⟨by rfl, ?_⟩) hHeld ?_
      rotate_left
      · (intro W1 hSw; (try dsimp only at hSw); go_simp; first | done | (with_reducible rfl))
      try simp only [Act.put, List.setIfInBounds_toArray, List.set_cons_zero, List.set_cons_succ]
      refine wpAnyH_ready (rs := [16]) (by kernel_rfl) (by simp) ?_
      refine AllReadyH.cons (o := { dst := some 23, op := Op.call { callee := Callee.value (Operand.func 121), args := #[Operand.tmp 7, Operand.tmp 12, Operand.tmp 16, Operand.tmp 17, Operand.tmp 22], argTypes := #[77, 3, 81, 81, 3] }, type := 30, pos := "redo.go:125", after := #[{ on := 0, ground := Ground.data }, { on := 5, ground := Ground.data }, { on := 9, ground := Ground.data }, { on := 10, ground := Ground.data }, { on := 15, ground := Ground.data }], guard := none }) rfl (fun K hK => ?_) AllReadyH.nil
      rw [if_pos (by rfl)]
      go_simp
      go_at_call 121
      refine HLY.out.mono ?_
      rintro e0 w3 ⟨rfl, z⟩
      refine hK.out _ _ trivial (fun hHeld => ?_)
      clear hK K
      try simp only [Act.put, List.setIfInBounds_toArray, List.set_cons_zero, List.set_cons_succ]
      refine wpAnyH_take (i := 17) (oi := { dst := some 4, op := Op.assign (Operand.tmp 23), type := 30, pos := "redo.go:125", after := #[{ on := 16, ground := Ground.data }, { on := 16, ground := Ground.chain }, { on := 0, ground := Ground.phase }, { on := 1, ground := Ground.phase }, { on := 2, ground := Ground.phase }, { on := 3, ground := Ground.phase }, { on := 4, ground := Ground.phase }, { on := 5, ground := Ground.phase }, { on := 6, ground := Ground.phase }, { on := 7, ground := Ground.phase }, { on := 8, ground := Ground.phase }, { on := 9, ground := Ground.phase }, { on := 10, ground := Ground.phase }, { on := 11, ground := Ground.phase }, { on := 12, ground := Ground.phase }, { on := 13, ground := Ground.phase }, { on := 14, ground := Ground.phase }, { on := 15, ground := Ground.phase }, { on := 16, ground := Ground.phase }], guard := none }) (v := ?_) rfl (by kernel_rfl) (by kernel_rfl) (by kernel_rfl) (fun _ _ _ h => h) (Or.inl ⟨by rfl, ?_⟩) hHeld ?_
      rotate_left
      · (intro W1 hSw; (try dsimp only at hSw); go_simp; first | done | (with_reducible rfl))
      try simp only [Act.put, List.setIfInBounds_toArray, List.set_cons_zero, List.set_cons_succ]
      refine wpAnyH_done (by kernel_rfl) ?_ _
      have HZ := hid z
      clear z hHeld
      go_wp2_with fail
      go_ret
      exact ⟨rfl, FIN.out _ HZ.out⟩
    · rw [if_pos (by rfl)]
      go_simp
      refine hK.out _ _ trivial (fun hHeld => ?_)
      clear hK K
      try simp only [Act.put, List.setIfInBounds_toArray, List.set_cons_zero, List.set_cons_succ]
      refine wpAnyH_take (i := 15) (oi := { dst := some 22, op := Op.binOp BinOp.add 3 (Operand.tmp 21) (Operand.const (Value.int IntKind.i64 1)) 3, type := 3, pos := "redo.go:125", after := #[{ on := 14, ground := Ground.data }], guard := none }) (v := ?_) rfl (by kernel_rfl) (by kernel_rfl) (by kernel_rfl) (fun _ _ _ h => h) (Or.inl ⟨by rfl, ?_⟩) hHeld ?_
      rotate_left
      · (intro W1 hSw; (try dsimp only at hSw); go_simp; first | done | (with_reducible rfl))
      try simp only [Act.put, List.setIfInBounds_toArray, List.set_cons_zero, List.set_cons_succ]
      refine wpAnyH_ready (rs := [9]) (by kernel_rfl) (by simp) ?_
      refine AllReadyH.cons (o := { dst := some 16, op := Op.load 81 (Operand.tmp 15), type := 81, pos := "redo.go:125", after := #[{ on := 8, ground := Ground.data }], guard := none }) rfl (fun K hK => ?_) AllReadyH.nil
      rw [if_pos (by rfl)]
      go_simp
      refine hK.out _ _ trivial (fun hHeld => ?_)
      clear hK K
      try simp only [Act.put, List.setIfInBounds_toArray, List.set_cons_zero, List.set_cons_succ]
      refine wpAnyH_ready (rs := [16]) (by kernel_rfl) (by simp) ?_
      refine AllReadyH.cons (o := { dst := some 23, op := Op.call { callee := Callee.value (Operand.func 121), args := #[Operand.tmp 7, Operand.tmp 12, Operand.tmp 16, Operand.tmp 17, Operand.tmp 22], argTypes := #[77, 3, 81, 81, 3] }, type := 30, pos := "redo.go:125", after := #[{ on := 0, ground := Ground.data }, { on := 5, ground := Ground.data }, { on := 9, ground := Ground.data }, { on := 10, ground := Ground.data }, { on := 15, ground := Ground.data }], guard := none }) rfl (fun K hK => ?_) AllReadyH.nil
      rw [if_pos (by rfl)]
      go_simp
      go_at_call 121
      refine HLY.out.mono ?_
      rintro e0 w3 ⟨rfl, z⟩
      refine hK.out _ _ trivial (fun hHeld => ?_)
      clear hK K
      try simp only [Act.put, List.setIfInBounds_toArray, List.set_cons_zero, List.set_cons_succ]
      refine wpAnyH_take (i := 17) (oi := { dst := some 4, op := Op.assign (Operand.tmp 23), type := 30, pos := "redo.go:125", after := #[{ on := 16, ground := Ground.data }, { on := 16, ground := Ground.chain }, { on := 0, ground := Ground.phase }, { on := 1, ground := Ground.phase }, { on := 2, ground := Ground.phase }, { on := 3, ground := Ground.phase }, { on := 4, ground := Ground.phase }, { on := 5, ground := Ground.phase }, { on := 6, ground := Ground.phase }, { on := 7, ground := Ground.phase }, { on := 8, ground := Ground.phase }, { on := 9, ground := Ground.phase }, { on := 10, ground := Ground.phase }, { on := 11, ground := Ground.phase }, { on := 12, ground := Ground.phase }, { on := 13, ground := Ground.phase }, { on := 14, ground := Ground.phase }, { on := 15, ground := Ground.phase }, { on := 16, ground := Ground.phase }], guard := none }) (v := ?_) rfl (by kernel_rfl) (by kernel_rfl) (by kernel_rfl) (fun _ _ _ h => h) (Or.inl ⟨by rfl, ?_⟩) hHeld ?_
      rotate_left
      · (intro W1 hSw; (try dsimp only at hSw); go_simp; first | done | (with_reducible rfl))
      try simp only [Act.put, List.setIfInBounds_toArray, List.set_cons_zero, List.set_cons_succ]
      refine wpAnyH_done (by kernel_rfl) ?_ _
      have HZ := hid z
      clear z hHeld
      go_wp2_with fail
      go_ret
      exact ⟨rfl, FIN.out _ HZ.out⟩
  · rw [if_pos (by rfl)]
    go_simp
    refine hK.out _ _ trivial (fun hHeld => ?_)
    clear hK K
    try simp only [Act.put, List.setIfInBounds_toArray, List.set_cons_zero, List.set_cons_succ]
    refine wpAnyH_ready (rs := [5, 14]) (by kernel_rfl) (by simp) ?_
    refine AllReadyH.cons (o := { dst := some 12, op := Op.load 3 (Operand.tmp 11), type := 3, pos := "redo.go:125", after := #[{ on := 4, ground := Ground.data }], guard := none }) rfl (fun K hK => ?_) (AllReadyH.cons (o := { dst := some 21, op := Op.load 3 (Operand.tmp 20), type := 3, pos := "redo.go:125", after := #[{ on := 13, ground := Ground.data }], guard := none }) rfl (fun K hK => ?_) AllReadyH.nil)
    · rw [if_pos (by rfl)]
      go_simp
      refine hK.out _ _ trivial (fun hHeld => ?_)
      clear hK K
      try simp only [Act.put, List.setIfInBounds_toArray, List.set_cons_zero, List.set_cons_succ]
      refine wpAnyH_ready (rs := [14]) (by kernel_rfl) (by simp) ?_
      refine AllReadyH.cons (o := { dst := some 21, op := Op.load 3 (Operand.tmp 20), type := 3, pos := "redo.go:125", after := #[{ on := 13, ground := Ground.data }], guard := none }) rfl (fun K hK => ?_) AllReadyH.nil
      rw [if_pos (by rfl)]
      go_simp
      refine hK.out _ _ trivial (fun hHeld => ?_)
      clear hK K
      try simp only [Act.put, List.setIfInBounds_toArray, List.set_cons_zero, List.set_cons_succ]
      refine wpAnyH_take (i := 15) (oi := { dst := some 22, op := Op.binOp BinOp.add 3 (Operand.tmp 21) (Operand.const (Value.int IntKind.i64 1)) 3, type := 3, pos := "redo.go:125", after := #[{ on := 14, ground := Ground.data }], guard := none }) (v := ?_) rfl (by kernel_rfl) (by kernel_rfl) (by kernel_rfl) (fun _ _ _ h => h) (Or.inl ⟨by rfl, ?_⟩) hHeld ?_
      rotate_left
      · (intro W1 hSw; (try dsimp only at hSw); go_simp; first | done | (with_reducible rfl))
      try simp only [Act.put, List.setIfInBounds_toArray, List.set_cons_zero, List.set_cons_succ]
      refine wpAnyH_ready (rs := [16]) (by kernel_rfl) (by simp) ?_
      refine AllReadyH.cons (o := { dst := some 23, op := Op.call { callee := Callee.value (Operand.func 121), args := #[Operand.tmp 7, Operand.tmp 12, Operand.tmp 16, Operand.tmp 17, Operand.tmp 22], argTypes := #[77, 3, 81, 81, 3] }, type := 30, pos := "redo.go:125", after := #[{ on := 0, ground := Ground.data }, { on := 5, ground := Ground.data }, { on := 9, ground := Ground.data }, { on := 10, ground := Ground.data }, { on := 15, ground := Ground.data }], guard := none }) rfl (fun K hK => ?_) AllReadyH.nil
      rw [if_pos (by rfl)]
      go_simp
      go_at_call 121
      refine HLY.out.mono ?_
      rintro e0 w3 ⟨rfl, z⟩
      refine hK.out _ _ trivial (fun hHeld => ?_)
      clear hK K
      try simp only [Act.put, List.setIfInBounds_toArray, List.set_cons_zero, List.set_cons_succ]
      refine wpAnyH_take (i := 17) (oi := { dst := some 4, op := Op.assign (Operand.tmp 23), type := 30, pos := "redo.go:125", after := #[{ on := 16, ground := Ground.data }, { on := 16, ground := Ground.chain }, { on := 0, ground := Ground.phase }, { on := 1, ground := Ground.phase }, { on := 2, ground := Ground.phase }, { on := 3, ground := Ground.phase }, { on := 4, ground := Ground.phase }, { on := 5, ground := Ground.phase }, { on := 6, ground := Ground.phase }, { on := 7, ground := Ground.phase }, { on := 8, ground := Ground.phase }, { on := 9, ground := Ground.phase }, { on := 10, ground := Ground.phase }, { on := 11, ground := Ground.phase }, { on := 12, ground := Ground.phase }, { on := 13, ground := Ground.phase }, { on := 14, ground := Ground.phase }, { on := 15, ground := Ground.phase }, { on := 16, ground := Ground.phase }], guard := none }) (v := ?_) rfl (by kernel_rfl) (by kernel_rfl) (by kernel_rfl) (fun _ _ _ h => h) (Or.inl ⟨by rfl, ?_⟩) hHeld ?_
      rotate_left
      · (intro W1 hSw; (try dsimp only at hSw); go_simp; first | done | (with_reducible rfl))
      try simp only [Act.put, List.setIfInBounds_toArray, List.set_cons_zero, List.set_cons_succ]
      refine wpAnyH_done (by kernel_rfl) ?_ _
      have HZ := hid z
      clear z hHeld
      go_wp2_with fail
      go_ret
      exact ⟨rfl, FIN.out _ HZ.out⟩
    · rw [if_pos (by rfl)]
      go_simp
      refine hK.out _ _ trivial (fun hHeld => ?_)
      clear hK K
      try simp only [Act.put, List.setIfInBounds_toArray, List.set_cons_zero, List.set_cons_succ]
      refine wpAnyH_take (i := 15) (oi := { dst := some 22, op := Op.binOp BinOp.add 3 (Operand.tmp 21) (Operand.const (Value.int IntKind.i64 1)) 3, type := 3, pos := "redo.go:125", after := #[{ on := 14, ground := Ground.data }], guard := none }) (v := ?_) rfl (by kernel_rfl) (by kernel_rfl) (by kernel_rfl) (fun _ _ _ h => h) (Or.inl ⟨by rfl, ?_⟩) hHeld ?_
      rotate_left
      · (intro W1 hSw; (try dsimp only at hSw); go_simp; first | done | (with_reducible rfl))
      try simp only [Act.put, List.setIfInBounds_toArray, List.set_cons_zero, List.set_cons_succ]
      refine wpAnyH_ready (rs := [5]) (by kernel_rfl) (by simp) ?_
      refine AllReadyH.cons (o := { dst := some 12, op := Op.load 3 (Operand.tmp 11), type := 3, pos := "redo.go:125", after := #[{ on := 4, ground := Ground.data }], guard := none }) rfl (fun K hK => ?_) AllReadyH.nil
      rw [if_pos (by rfl)]
      go_simp
      refine hK.out _ _ trivial (fun hHeld => ?_)
      clear hK K
      try simp only [Act.put, List.setIfInBounds_toArray, List.set_cons_zero, List.set_cons_succ]
      refine wpAnyH_ready (rs := [16]) (by kernel_rfl) (by simp) ?_
      refine AllReadyH.cons (o := { dst := some 23, op := Op.call { callee := Callee.value (Operand.func 121), args := #[Operand.tmp 7, Operand.tmp 12, Operand.tmp 16, Operand.tmp 17, Operand.tmp 22], argTypes := #[77, 3, 81, 81, 3] }, type := 30, pos := "redo.go:125", after := #[{ on := 0, ground := Ground.data }, { on := 5, ground := Ground.data }, { on := 9, ground := Ground.data }, { on := 10, ground := Ground.data }, { on := 15, ground := Ground.data }], guard := none }) rfl (fun K hK => ?_) AllReadyH.nil
      rw [if_pos (by rfl)]
      go_simp
      go_at_call 121
      refine HLY.out.mono ?_
      rintro e0 w3 ⟨rfl, z⟩
      refine hK.out _ _ trivial (fun hHeld => ?_)
      clear hK K
      try simp only [Act.put, List.setIfInBounds_toArray, List.set_cons_zero, List.set_cons_succ]
      refine wpAnyH_take (i := 17) (oi := { dst := some 4, op := Op.assign (Operand.tmp 23), type := 30, pos := "redo.go:125", after := #[{ on := 16, ground := Ground.data }, { on := 16, ground := Ground.chain }, { on := 0, ground := Ground.phase }, { on := 1, ground := Ground.phase }, { on := 2, ground := Ground.phase }, { on := 3, ground := Ground.phase }, { on := 4, ground := Ground.phase }, { on := 5, ground := Ground.phase }, { on := 6, ground := Ground.phase }, { on := 7, ground := Ground.phase }, { on := 8, ground := Ground.phase }, { on := 9, ground := Ground.phase }, { on := 10, ground := Ground.phase }, { on := 11, ground := Ground.phase }, { on := 12, ground := Ground.phase }, { on := 13, ground := Ground.phase }, { on := 14, ground := Ground.phase }, { on := 15, ground := Ground.phase }, { on := 16, ground := Ground.phase }], guard := none }) (v := ?_) rfl (by kernel_rfl) (by kernel_rfl) (by kernel_rfl) (fun _ _ _ h => h) (Or.inl ⟨by rfl, ?_⟩) hHeld ?_
      rotate_left
      · (intro W1 hSw; (try dsimp only at hSw); go_simp; first | done | (with_reducible rfl))
      try simp only [Act.put, List.setIfInBounds_toArray, List.set_cons_zero, List.set_cons_succ]
      refine wpAnyH_done (by kernel_rfl) ?_ _
      have HZ := hid z
      clear z hHeld
      go_wp2_with fail
      go_ret
      exact ⟨rfl, FIN.out _ HZ.out⟩
  · rw [if_pos (by rfl)]
    go_simp
    refine hK.out _ _ trivial (fun hHeld => ?_)
    clear hK K
    try simp only [Act.put, List.setIfInBounds_toArray, List.set_cons_zero, List.set_cons_succ]
    refine wpAnyH_take (i := 15) (oi := { dst := some 22, op := Op.binOp BinOp.add 3 (Operand.tmp 21) (Operand.const (Value.int IntKind.i64 1)) 3, type := 3, pos := "redo.go:125", after := #[{ on := 14, ground := Ground.data }], guard := none }) (v := ?_) rfl (by kernel_rfl) (by kernel_rfl) (by kernel_rfl) (fun _ _ _ h => h) (Or.inl ⟨by rfl, ?_⟩) hHeld ?_
    rotate_left
    · (intro W1 hSw; (try dsimp only at hSw); go_simp; first | done | (with_reducible rfl))
    try simp only [Act.put, List.setIfInBounds_toArray, List.set_cons_zero, List.set_cons_succ]
    refine wpAnyH_ready (rs := [5, 9]) (by kernel_rfl) (by simp) ?_
    refine AllReadyH.cons (o := { dst := some 12, op := Op.load 3 (Operand.tmp 11), type := 3, pos := "redo.go:125", after := #[{ on := 4, ground := Ground.data }], guard := none }) rfl (fun K hK => ?_) (AllReadyH.cons (o := { dst := some 16, op := Op.load 81 (Operand.tmp 15), type := 81, pos := "redo.go:125", after := #[{ on := 8, ground := Ground.data }], guard := none }) rfl (fun K hK => ?_) AllReadyH.nil)
    · rw [if_pos (by rfl)]
      go_simp
      refine hK.out _ _ trivial (fun hHeld => ?_)
      clear hK K
      try simp only [Act.put, List.setIfInBounds_toArray, List.set_cons_zero, List.set_cons_succ]
      refine wpAnyH_ready (rs := [9]) (by kernel_rfl) (by simp) ?_
      refine AllReadyH.cons (o := { dst := some 16, op := Op.load 81 (Operand.tmp 15), type := 81, pos := "redo.go:125", after := #[{ on := 8, ground := Ground.data }], guard := none }) rfl (fun K hK => ?_) AllReadyH.nil
      rw [if_pos (by rfl)]
      go_simp
      refine hK.out _ _ trivial (fun hHeld => ?_)
      clear hK K
      try simp only [Act.put, List.setIfInBounds_toArray, List.set_cons_zero, List.set_cons_succ]
      refine wpAnyH_ready (rs := [16]) (by kernel_rfl) (by simp) ?_
      refine AllReadyH.cons (o := { dst := some 23, op := Op.call { callee := Callee.value (Operand.func 121), args := #[Operand.tmp 7, Operand.tmp 12, Operand.tmp 16, Operand.tmp 17, Operand.tmp 22], argTypes := #[77, 3, 81, 81, 3] }, type := 30, pos := "redo.go:125", after := #[{ on := 0, ground := Ground.data }, { on := 5, ground := Ground.data }, { on := 9, ground := Ground.data }, { on := 10, ground := Ground.data }, { on := 15, ground := Ground.data }], guard := none }) rfl (fun K hK => ?_) AllReadyH.nil
      rw [if_pos (by rfl)]
      go_simp
      go_at_call 121
      refine HLY.out.mono ?_
      rintro e0 w3 ⟨rfl, z⟩
      refine hK.out _ _ trivial (fun hHeld => ?_)
      clear hK K
      try simp only [Act.put, List.setIfInBounds_toArray, List.set_cons_zero, List.set_cons_succ]
      refine wpAnyH_take (i := 17) (oi := { dst := some 4, op := Op.assign (Operand.tmp 23), type := 30, pos := "redo.go:125", after := #[{ on := 16, ground := Ground.data }, { on := 16, ground := Ground.chain }, { on := 0, ground := Ground.phase }, { on := 1, ground := Ground.phase }, { on := 2, ground := Ground.phase }, { on := 3, ground := Ground.phase }, { on := 4, ground := Ground.phase }, { on := 5, ground := Ground.phase }, { on := 6, ground := Ground.phase }, { on := 7, ground := Ground.phase }, { on := 8, ground := Ground.phase }, { on := 9, ground := Ground.phase }, { on := 10, ground := Ground.phase }, { on := 11, ground := Ground.phase }, { on := 12, ground := Ground.phase }, { on := 13, ground := Ground.phase }, { on := 14, ground := Ground.phase }, { on := 15, ground := Ground.phase }, { on := 16, ground := Ground.phase }], guard := none }) (v := ?_) rfl (by kernel_rfl) (by kernel_rfl) (by kernel_rfl) (fun _ _ _ h => h) (Or.inl ⟨by rfl, ?_⟩) hHeld ?_
      rotate_left
      · (intro W1 hSw; (try dsimp only at hSw); go_simp; first | done | (with_reducible rfl))
      try simp only [Act.put, List.setIfInBounds_toArray, List.set_cons_zero, List.set_cons_succ]
      refine wpAnyH_done (by kernel_rfl) ?_ _
      have HZ := hid z
      clear z hHeld
      go_wp2_with fail
      go_ret
      exact ⟨rfl, FIN.out _ HZ.out⟩
    · rw [if_pos (by rfl)]
      go_simp
      refine hK.out _ _ trivial (fun hHeld => ?_)
      clear hK K
      try simp only [Act.put, List.setIfInBounds_toArray, List.set_cons_zero, List.set_cons_succ]
      refine wpAnyH_ready (rs := [5]) (by kernel_rfl) (by simp) ?_
      refine AllReadyH.cons (o := { dst := some 12, op := Op.load 3 (Operand.tmp 11), type := 3, pos := "redo.go:125", after := #[{ on := 4, ground := Ground.data }], guard := none }) rfl (fun K hK => ?_) AllReadyH.nil
      rw [if_pos (by rfl)]
      go_simp
      refine hK.out _ _ trivial (fun hHeld => ?_)
      clear hK K
      try simp only [Act.put, List.setIfInBounds_toArray, List.set_cons_zero, List.set_cons_succ]
      refine wpAnyH_ready (rs := [16]) (by kernel_rfl) (by simp) ?_
      refine AllReadyH.cons (o := { dst := some 23, op := Op.call { callee := Callee.value (Operand.func 121), args := #[Operand.tmp 7, Operand.tmp 12, Operand.tmp 16, Operand.tmp 17, Operand.tmp 22], argTypes := #[77, 3, 81, 81, 3] }, type := 30, pos := "redo.go:125", after := #[{ on := 0, ground := Ground.data }, { on := 5, ground := Ground.data }, { on := 9, ground := Ground.data }, { on := 10, ground := Ground.data }, { on := 15, ground := Ground.data }], guard := none }) rfl (fun K hK => ?_) AllReadyH.nil
      rw [if_pos (by rfl)]
      go_simp
      go_at_call 121
      refine HLY.out.mono ?_
      rintro e0 w3 ⟨rfl, z⟩
      refine hK.out _ _ trivial (fun hHeld => ?_)
      clear hK K
      try simp only [Act.put, List.setIfInBounds_toArray, List.set_cons_zero, List.set_cons_succ]
      refine wpAnyH_take (i := 17) (oi := { dst := some 4, op := Op.assign (Operand.tmp 23), type := 30, pos := "redo.go:125", after := #[{ on := 16, ground := Ground.data }, { on := 16, ground := Ground.chain }, { on := 0, ground := Ground.phase }, { on := 1, ground := Ground.phase }, { on := 2, ground := Ground.phase }, { on := 3, ground := Ground.phase }, { on := 4, ground := Ground.phase }, { on := 5, ground := Ground.phase }, { on := 6, ground := Ground.phase }, { on := 7, ground := Ground.phase }, { on := 8, ground := Ground.phase }, { on := 9, ground := Ground.phase }, { on := 10, ground := Ground.phase }, { on := 11, ground := Ground.phase }, { on := 12, ground := Ground.phase }, { on := 13, ground := Ground.phase }, { on := 14, ground := Ground.phase }, { on := 15, ground := Ground.phase }, { on := 16, ground := Ground.phase }], guard := none }) (v := ?_) rfl (by kernel_rfl) (by kernel_rfl) (by kernel_rfl) (fun _ _ _ h => h) (Or.inl ⟨by rfl, ?_⟩) hHeld ?_
      rotate_left
      · (intro W1 hSw; (try dsimp only at hSw); go_simp; first | done | (with_reducible rfl))
      try simp only [Act.put, List.setIfInBounds_toArray, List.set_cons_zero, List.set_cons_succ]
      refine wpAnyH_done (by kernel_rfl) ?_ _
      have HZ := hid z
      clear z hHeld
      go_wp2_with fail
      go_ret
      exact ⟨rfl, FIN.out _ HZ.out⟩
  -- END REGION append
end Go.Proofs.YtdfkdgnhpdgphaaGreatDoor

/-
  store.New.
-/
namespace Go.Proofs.YtdfkdgnhpdgphaaGreatDoor
open Go.RowKit Go.Proofs.Lig

set_option maxHeartbeats 2000000 in
set_option maxRecDepth 100000 in
theorem store_new (w : World) (O : Nat → Prop) (hO : ∀ k, w.heap.size ≤ k → O k) : Calls Tryz.prog 30 #[] w fun e w' => ∃ s, e = .returned (pt s) ∧ w.heap.size ≤ s ∧ Sto O w' s ⟨Clk.new, [], [], [], none, none⟩ ∧ Below w.heap.size w w' := by
  have hmm := @run_makeMap Tryz.prog
  go_enter Tryz.func30, Tryz.ntmps30
  go_wp2_with fail
  refine (new_S w).mono ?_
  rintro e w1 ⟨rfl, C1, B1⟩
  have HC1 := hid C1
  have HB1 := hid B1
  clear C1 B1
  go_wp2_with fail
  refine (chn_new w1).mono ?_
  rintro e w2 ⟨rfl, D1, B2⟩
  have HD1 := hid D1
  have HB2 := hid (bstep0 HB1.out B2)
  have HC2 := hid (HC1.out.tfr (ts := []) (.of_below B2) (by simp))
  clear D1 B2
  go_wp2_with fail
  refine (chn_new w2).mono ?_
  rintro e w3 ⟨rfl, D2, B3⟩
  have HD2 := hid D2
  have HD3 := hid (chn_law.tfr HD1.out (ts := []) (.of_below B3) (by simp))
  have HB3 := hid (bstep0 HB2.out B3)
  have HC3 := hid (HC2.out.tfr (ts := []) (.of_below B3) (by simp))
  clear D2 B3
  go_wp2_with fail
  go_ret
  have BA := (below_alloc w3 (.map #[] 0)).alloc (by simp) (.cells (stoCells ⟨w.heap.size, none, 0, none, 0, none, 0, w1.heap.size + 1, w2.heap.size + 1, w3.heap.size, none, 0, [], []⟩ 0 0 0 0).toArray 99)
  have KS := Blk.new (w3.alloc (.map #[] 0)) 99 (stoCells ⟨w.heap.size, none, 0, none, 0, none, 0, w1.heap.size + 1, w2.heap.size + 1, w3.heap.size, none, 0, [], []⟩ 0 0 0 0)
  rw [World.size_alloc] at KS
  have T : TFr [] w3 _ := .of_below BA
  have h1 : w.heap.size ≤ w1.heap.size := HB1.out.size
  have h2 : w.heap.size ≤ w2.heap.size := HB2.out.size
  have h3 : w.heap.size ≤ w3.heap.size := HB3.out.size
  have h12 : w1.heap.size + 1 < w2.heap.size := chn_law.lt HD1.out _ (by simp)
  have h23 : w2.heap.size + 1 < w3.heap.size := chn_law.lt HD2.out _ (by simp)
  refine ⟨w3.heap.size + 1, rfl, by omega, ⟨⟨w.heap.size, none, 0, none, 0, none, 0, w1.heap.size + 1, w2.heap.size + 1, w3.heap.size, none, 0, [], []⟩, ?_⟩, bstep0 HB3.out BA⟩
  refine ⟨KS, hO _ (by omega), ⟨_, HC3.out.tfr T (by simp), fun k hk => ?_⟩, Clk.good_new, OwnO.nil, OwnO.nil, OwnO.nil, OwnO.nil, PartsIn.nil, PartsIn.nil, ⟨[(w1.heap.size + 1, [w1.heap.size + 1, w1.heap.size], none), (w2.heap.size + 1, [w2.heap.size + 1, w2.heap.size], none)], rfl, rfl, ?_, ?_⟩, rfl, fun l hl => by simp at hl⟩
  · obtain rfl : k = w.heap.size := by simpa using hk
    exact hO _ (Nat.le_refl _)
  · intro x hx
    rcases List.mem_cons.1 hx with rfl | hx
    · refine ⟨chn_law.tfr HD3.out T (by simp), fun k hk => hO _ ?_⟩
      simp at hk
      omega
    · obtain rfl : x = _ := by simpa using hx
      refine ⟨chn_law.tfr HD2.out T (by simp), fun k hk => hO _ ?_⟩
      simp at hk
      omega
  · refine List.pairwise_cons.2 ⟨fun y hy => ?_, by simp⟩
    obtain rfl : y = _ := by simpa using hy
    intro k hk hk2
    simp at hk hk2
    omega
end Go.Proofs.YtdfkdgnhpdgphaaGreatDoor

/-
  db.Open over noughts.
-/
namespace Go.Proofs.YtdfkdgnhpdgphaaGreatDoor
open Go.RowKit Go.Proofs.Lig

/-- A database's cells: the store, the log, the four sessions, the commits. -/
def dbCells (s L : Nat) (a b c d m : Int) : List Value := [pt s, pt L, .int .i64 a, .int .i64 b, .int .i64 c, .int .i64 d, .int .i64 m]
set_option maxHeartbeats 2000000 in
set_option maxRecDepth 100000 in
theorem db_open0 (w : World) (N D G M n : Nat) (good : List Int) (wait : Value) (k : Nat) (ws : List Value) (h : Drm w N D G M n good (noughts n) wait k ws) (hn4 : 4 ≤ n) (hn : n ≤ 200) (O : Nat → Prop) (hO : NewO O w) :
    Calls Tryz.prog 11 #[.pointer (some ⟨D, 0, none⟩)] w fun e w' => ∃ B s L A cap, e = .returned (.tuple #[.pointer (some ⟨B, 0, none⟩), .int .i64 0]) ∧ w.heap.size ≤ B ∧ w.heap.size ≤ s ∧ w.heap.size ≤ L ∧ Blk w' B 87 (dbCells s L 0 0 0 0 0) ∧ Sto O w' s ⟨Clk.new, [], [], [], none, none⟩ ∧ Blk w' L 152 (logCells D 0 0 0 (.slice A 0 cap) 0) ∧ BRow w' w.heap.size A cap [] ∧ Below w.heap.size w w' := by
  have HR := hid (redo_open0 w N D G M n good wait k ws h hn4 hn)
  go_enter Tryz.func11, Tryz.ntmps11
  go_wp2_with fail
  refine HR.out.mono ?_
  rintro e w1 ⟨L, A, cap, rfl, hL, KL, RL, B1⟩
  have HKL := hid KL
  have HRL := hid RL
  have HB1 := hid B1
  have HHL := hid hL
  have HSN := hid (store_new w1 O (hO.step B1.size))
  clear KL RL B1 hL
  go_wp2_with fail
  refine HSN.out.mono ?_
  rintro e w2 ⟨s, rfl, hs, z, B2⟩
  have HS2 := hid z
  have HB2 := hid (bstep0 HB1.out B2)
  have HK2 := hid (HKL.out.below B2 HKL.out.lt)
  have HR2 : Hid (BRow w2 w.heap.size A cap []) := ⟨own_tfr (ts := []) HRL.out.own (.of_below B2) (by simp), HRL.out.bytes⟩
  have HHS : Hid (w.heap.size ≤ s) := Nat.le_trans HB1.out.size hs
  clear z B2 hs
  go_wp2_with fail
  go_loopw [27] (fun v wr => v = .int .i64 0 ∧ w2 = wr) (fun _ _ => 1)
  case atStart => exact ⟨rfl, rfl⟩
  case round =>
    obtain ⟨rfl, rfl⟩ := hrel
    go_wp2_with fail
    have BA := below_alloc w2 (.cells (dbCells s L 0 0 0 0 0).toArray 87)
    have KS := Blk.new w2 87 (dbCells s L 0 0 0 0 0)
    have T : TFr [] w2 _ := .of_below BA
    obtain ⟨p, hp⟩ := HS2.out
    exact bodyPost_ret (v := .tuple #[.pointer (some ⟨w2.heap.size, 0, none⟩), .int .i64 0]) (by simp [results, Tryz.results11, go_sem]) rfl ⟨w2.heap.size, s, L, A, cap, rfl, HB2.out.size, HHS.out, HHL.out, KS, ⟨p, hp.tfr T (by simp)⟩, HK2.out.tfr T (by simp), ⟨own_tfr HR2.out.own T (by simp), HR2.out.bytes⟩, bstep0 HB2.out BA⟩
end Go.Proofs.YtdfkdgnhpdgphaaGreatDoor

/-
  db.Store.
-/
namespace Go.Proofs.YtdfkdgnhpdgphaaGreatDoor
open Go.RowKit Go.Proofs.Lig

set_option maxRecDepth 100000 in
theorem db_store (w : World) (B s L : Nat) (a b c d m : Int) (h : Blk w B 87 (dbCells s L a b c d m)) :
    Calls Tryz.prog 12 #[pt B] w fun e w' => e = .returned (pt s) ∧ w = w' := by
  have l0 : w.cell? ⟨B, 0, none⟩ = some (pt s) := h.cell 0
  clear h
  go_enter Tryz.func12, Tryz.ntmps12
  go_wp2_with fail
  go_ret
  exact ⟨rfl, rfl⟩
end Go.Proofs.YtdfkdgnhpdgphaaGreatDoor

/-
  db.begin.
-/
namespace Go.Proofs.YtdfkdgnhpdgphaaGreatDoor
open Go.RowKit Go.Proofs.Lig
attribute [local go_sem] run_store_float

/-- An answer's cells: the error, the id; nothing else. -/
def ansCells (err id : Int) : List Value := [.int .i64 err, .int .i64 id, .slice none 0 0, .slice none 0 0, .slice none 0 0, .int .i64 0, .int .i64 0, .string ⟨#[]⟩, .float .f64 0, .slice none 0 0, .float .f64 0, .bool false]

set_option maxRecDepth 100000 in
theorem FrO.fr_new {O : Nat → Prop} {w w1 w2 : World} {g : Nat} (h : FrO O w w1) (hf : Fr [g] w1 w2) (hg : w.heap.size ≤ g) : FrO O w w2 :=
  ⟨hf.os.trans h.os, hf.tape.trans h.tape, hf.output.trans h.output, Nat.le_trans h.size hf.size, fun k hk hn => (hf.block k (Nat.lt_of_lt_of_le hk h.size) (by simp; omega)).trans (h.block k hk hn)⟩
theorem TFr.fr_new {ts : List TypeId} {w w1 w2 : World} {g : Nat} (h : TFr ts w w1) (hf : Fr [g] w1 w2) (hg : w.heap.size ≤ g) : TFr ts w w2 := fun k o hk ht => by
  have h1 := h k o hk ht
  have h2 := (Array.getElem?_eq_some_iff.1 hk).1
  exact (hf.block k (Array.getElem?_eq_some_iff.1 h1).1 (by simp; omega)).trans h1
set_option maxHeartbeats 2000000 in
set_option maxRecDepth 100000 in
theorem db_begin (O : Nat → Prop) (w : World) (B s i : Nat) (cs : List Value) (p : StoP) (d : StoD) (h : Blk w B 87 cs) (hi : i < 4) (h0 : cs[0]? = some (pt s)) (hti : cs[2 + i]? = some (.int .i64 0)) (hOB : O B) (hS : StoA O w s p d) (hO : NewO O w) (hf : d.c.count < 4) (hn : d.c.l.length ≤ 1000000) (v : Int) (hv : (d.c.l.length : Int) + 1 = v) :
    Calls Tryz.prog 26 #[pt B, .int .i64 (i : Int)] w fun e w' => e = .returned (.agg (ansCells 0 0).toArray) ∧ StoA O w' s p { d with c := d.c.began } ∧ Blk w' B 87 (cs.set (2 + i) (.int .i64 v)) ∧ FrO O w w' ∧ TFr (87 :: stoT) w w' := by
  have B1 := below_alloc w (.cells #[.int .i64 0, .int .i64 0, .slice none 0 0, .slice none 0 0, .slice none 0 0, .int .i64 0, .int .i64 0, .string ⟨#[]⟩, .float .f64 0, .slice none 0 0, .float .f64 0, .bool false] 41)
  have K1 := Blk.new w 41 [.int .i64 0, .int .i64 0, .slice none 0 0, .slice none 0 0, .slice none 0 0, .int .i64 0, .int .i64 0, .string ⟨#[]⟩, .float .f64 0, .slice none 0 0, .float .f64 0, .bool false]
  have HB := hid (sto_begin (hS.tfr (ts := []) (.of_below B1) (by simp)) (hO.step B1.size) hf hn v hv)
  have l0 : (w.alloc (.cells #[.int .i64 0, .int .i64 0, .slice none 0 0, .slice none 0 0, .slice none 0 0, .int .i64 0, .int .i64 0, .string ⟨#[]⟩, .float .f64 0, .slice none 0 0, .float .f64 0, .bool false] 41)).cell? ⟨B, 0, none⟩ = some (pt s) := ((h.below B1 h.lt).cell 0).trans h0
  have lt : (w.alloc (.cells #[.int .i64 0, .int .i64 0, .slice none 0 0, .slice none 0 0, .slice none 0 0, .int .i64 0, .int .i64 0, .string ⟨#[]⟩, .float .f64 0, .slice none 0 0, .float .f64 0, .bool false] 41)).cell? ⟨B, 2 + i, none⟩ = some (.int .i64 0) := ((h.below B1 h.lt).cell (2 + i)).trans hti
  have hiI : (i : Int) < 4 := by omega
  go_enter Tryz.func26, Tryz.ntmps26
  go_wp2_with fail
  refine HB.out.mono ?_
  rintro e w5 ⟨rfl, S5, F5, T5⟩
  have HS5 := hid S5
  have KA := hid (K1.tfr T5 (by decide))
  have KB := (h.below B1 h.lt).tfr T5 (by decide)
  have hne : B ≠ w.heap.size := Nat.ne_of_lt h.lt
  have g1 : w5.cell? ⟨B, 2 + i, none⟩ = some (.int .i64 0) := (KB.cell (2 + i)).trans hti
  have g2 := KB.frozen (2 + i)
  have KC := hid (KB.set_ (2 + i) (.int .i64 v))
  have hBl := KB.lt
  have KD : Hid (Blk (w5.setCell ⟨B, 2 + i, none⟩ (.int .i64 v)) w.heap.size 41 [.int .i64 0, .int .i64 0, .slice none 0 0, .slice none 0 0, .slice none 0 0, .int .i64 0, .int .i64 0, .string ⟨#[]⟩, .float .f64 0, .slice none 0 0, .float .f64 0, .bool false]) := (KA.out.fr ((Fr.refl [B] w5).setCell (p := ⟨B, 2 + i, none⟩) (by simp) _) (by simpa using hne.symm))
  have HT5 := hid T5
  have HF6 := hid (((FrO.of_below B1).trans F5).setCell (p := ⟨B, 2 + i, none⟩) hOB (.int .i64 v))
  clear S5 F5 T5 l0 lt
  go_wp2_with (first
    | (refine wpList_store_blk rfl 41 _ _ rfl w.heap.size 41 [.int .i64 0, .int .i64 0, .slice none 0 0, .slice none 0 0, .slice none 0 0, .int .i64 0, .int .i64 0, .string ⟨#[]⟩, .float .f64 0, .slice none 0 0, .float .f64 0, .bool false] [.int .i64 0, .int .i64 0, .slice none 0 0, .slice none 0 0, .slice none 0 0, .int .i64 0, .int .i64 0, .string ⟨#[]⟩, .float .f64 0, .slice none 0 0, .float .f64 0, .bool false] KD.out rfl rfl rfl (by kernel_rfl) (by first | kernel_rfl | simp [Value.oneCell'] | decide) ?_
       intro w7 K7 F7))
  have fB : Fr [B] w5 (w5.setCell ⟨B, 2 + i, none⟩ (.int .i64 v)) := (Fr.refl [B] w5).setCell (p := ⟨B, 2 + i, none⟩) (by simp) _
  have t6 : TFr [87] w5 (w5.setCell ⟨B, 2 + i, none⟩ (.int .i64 v)) := TFr.of_fr fB (fun k hk => by
    obtain rfl : k = B := by simpa using hk
    exact ⟨_, _, _, KB, by simp⟩)
  have t7 : TFr [41] (w5.setCell ⟨B, 2 + i, none⟩ (.int .i64 v)) w7 := TFr.of_fr F7 (fun k hk => by
    obtain rfl : k = w.heap.size := by simpa using hk
    exact ⟨_, _, _, KD.out, by simp⟩)
  exact bodyPost_ret (res_agg rfl _ _ w.heap.size 41 [.int .i64 0, .int .i64 0, .slice none 0 0, .slice none 0 0, .slice none 0 0, .int .i64 0, .int .i64 0, .string ⟨#[]⟩, .float .f64 0, .slice none 0 0, .float .f64 0, .bool false] _ K7 rfl Tryz.underlying41 rfl (by kernel_rfl)) rfl ⟨rfl, (HS5.out.tfr t6 (by decide)).tfr t7 (by decide), KC.out.tfr t7 (by decide), FrO.fr_new HF6.out F7 (Nat.le_refl _), TFr.fr_new (((TFr.of_below B1).trans (HT5.out.mono (by simp +contextual))).trans (t6.mono (by simp))) F7 (Nat.le_refl _)⟩
end Go.Proofs.YtdfkdgnhpdgphaaGreatDoor

/-
  A database as a whole: its block, its store, its log and its drum.
-/
namespace Go.Proofs.YtdfkdgnhpdgphaaGreatDoor
open Go.RowKit Go.Proofs.Lig

/-- cs: the database's cells; m: how many bytes the log may hold; k: how many texts it holds. -/
structure DbS (O : Nat → Prop) (w : World) (N D G M n B s L : Nat) (cs : List Value) (p : StoP) (d : StoD) (k m : Nat) : Prop where
  db : Blk w B 87 cs
  sto : StoA O w s p d
  drm : ∃ good now wait j ws, j ≤ 100 ∧ Drm w N D G M n good now wait j ws
  log : ∃ (bank len base : Nat) (A : Option Addr) (cap : Nat) (xs : List Int), bank ≤ 1 ∧ Blk w L 152 (logCells D (k : Int) (bank : Int) (len : Int) (.slice A xs.length cap) (k : Int)) ∧ BRow w base A cap xs ∧ xs.length ≤ m
end Go.Proofs.YtdfkdgnhpdgphaaGreatDoor

/-
  db.commit.
-/
namespace Go.Proofs.YtdfkdgnhpdgphaaGreatDoor
open Go.RowKit Go.Proofs.Lig

set_option maxRecDepth 100000 in
set_option maxHeartbeats 4000000 in
theorem db_commit (O : Nat → Prop) (w : World) (N D G M n B s L : Nat) (cs : List Value) (p : StoP) (d : StoD) (k m : Nat) (h : DbS O w N D G M n B s L cs p d k m) (h0 : cs[0]? = some (pt s)) (h1 : cs[1]? = some (pt L)) (c : Int) (h6 : cs[6]? = some (.int .i64 c)) (hc0 : 0 ≤ c) (hc1 : c ≤ 1000) (hO : NewO O w) (hON : ∀ k, N ≤ k → O k) (hOB : O B) (t : Int) (hlv : d.c.live t = true) (hns : d.ns.length ≤ 24) (hes : d.es.length ≤ 32) (hcn : d.c.n ≤ 1000000)
    (hg : ∀ x ∈ pendWrs d t, GoodW d.ns.length d.es.length x) (hd : (wkeys (pendWrs d t)).Nodup) (hl : (pendWrs d t).length ≤ 39) (hne : pendWrs d t ≠ []) (hn4 : 4 ≤ n) (hn : n ≤ 200) (hm : m + 30 + 100 * (pendWrs d t).length + 10 ≤ 64 * ((n - 2) / 2)) (hk : k ≤ 999) (hN : N ≤ w.heap.size) (hNL : N ≤ L) :
    Calls Tryz.prog 56 #[pt B, .int .i64 t] w fun e w' => e = .returned (.int .i64 0) ∧ DbS O w' N D G M n B s L (cs.set 6 (.int .i64 (c + 1))) p { d with c := d.c.committed t } (k + 1) (m + 40 + 100 * (pendWrs d t).length) ∧ FrO O w w' ∧ TFr (87 :: 152 :: (drmT ++ stoT)) w w' := by
  have HP := hid (sto_pending h.sto t hlv (by omega) (by omega))
  have HDB := hid h
  have l0 : w.cell? ⟨B, 0, none⟩ = some (pt s) := (h.db.cell 0).trans h0
  clear h
  go_enter Tryz.func56, Tryz.ntmps56
  go_wp2_with fail
  refine HP.out.mono ?_
  rintro e w1 ⟨A, cap, rfl, HW, B1⟩
  have HEN := hid (encode_ok w1 d.ns.length d.es.length A cap (pendWrs d t) HW.toSrc hg hd (by omega) (by omega) (by omega) (by omega) (by omega))
  have HB1 := hid B1
  have hlz : ¬ ((pendWrs d t).length : Int) = 0 := by
    intro e
    exact hne (List.eq_nil_of_length_eq_zero (by omega))
  clear HW B1
  go_wp2_with fail
  refine HEN.out.mono ?_
  rintro e w2 ⟨A2, c2, ys, rfl, RY, hy, B2⟩
  have HB2 := hid (bstep0 HB1.out B2)
  obtain ⟨good, now, wait, j, ws, hj, hD⟩ := HDB.out.drm
  obtain ⟨bank, len, base, LA, lc, xs, hbk, hL, hR, hxm⟩ := HDB.out.log
  have T2 : TFr [] w w2 := .of_below HB2.out
  have l1 : w2.cell? ⟨B, 1, none⟩ = some (pt L) := ((HDB.out.db.tfr T2 (by simp)).cell 1).trans h1
  have HAP := hid (redo_append w2 N D G M n L good now wait j ws (hD.tfr T2 (by simp)) hj hn4 hn (Nat.le_trans hN HB2.out.size) hNL k bank len base LA lc xs (k : Int) (by omega) (by omega) (hL.tfr T2 (by simp)) (by omega) hbk ⟨own_tfr hR.own T2 (by simp), hR.bytes⟩ w1.heap.size A2 c2 ys RY (by omega) (by omega))
  clear hD hL hR RY B2
  go_wp2_with fail
  refine HAP.out.mono ?_
  rintro e w3 ⟨rfl, good', now', A', cap', zs, D3, L3, R3, hz, T3, B3⟩
  have HD3 := hid D3
  have HL3 := hid L3
  have HR3 := hid R3
  have HT3 : Hid (TFr (152 :: drmT) w w3) := (TFr.of_below HB2.out).trans T3
  have KB := HDB.out.db.tfr HT3.out (by decide)
  have m0 : w3.cell? ⟨B, 0, none⟩ = some (pt s) := (KB.cell 0).trans h0
  have m6 : w3.cell? ⟨B, 6, none⟩ = some (.int .i64 c) := (KB.cell 6).trans h6
  have f6 := KB.frozen 6
  have KC := hid (KB.set_ 6 (.int .i64 (c + 1)))
  have t4 : TFr [87] w3 (w3.setCell ⟨B, 6, none⟩ (.int .i64 (c + 1))) := TFr.of_fr ((Fr.refl [B] w3).setCell (p := ⟨B, 6, none⟩) (by simp) _) (fun k hk => by
    obtain rfl : k = B := by simpa using hk
    exact ⟨_, _, _, KB, by simp⟩)
  have HSC := hid (sto_commit ((HDB.out.sto.tfr HT3.out (by decide)).tfr t4 (by decide)) (hO.step (Nat.le_trans HB2.out.size (by simpa using B3.size))) t hlv hcn)
  have HT4 := hid t4
  have HF4 := hid (((FrO.of_below HB2.out).trans ((FrO.of_le B3).mono hON)).setCell (p := ⟨B, 6, none⟩) hOB (.int .i64 (c + 1)))
  clear D3 L3 R3 T3 B3 t4 l1 l0
  go_wp2_with fail
  refine HSC.out.mono ?_
  rintro e w5 ⟨rfl, S5, F5, T5⟩
  have HS5 := hid S5
  have HT5 := hid T5
  have HF5 := hid (HF4.out.trans F5)
  clear S5 F5 T5 m0 m6
  go_wp2_with fail
  go_ret
  refine ⟨rfl, ⟨KC.out.tfr HT5.out (by decide), HS5.out, ⟨good', now', _, 0, [], by omega, ((HD3.out.tfr HT4.out (by decide)).tfr HT5.out (by decide))⟩, ⟨bank, zs.length, w2.heap.size, A', cap', zs, hbk, (HL3.out.tfr HT4.out (by decide)).tfr HT5.out (by decide), ⟨own_tfr (own_tfr HR3.out.own HT4.out (by decide)) HT5.out (by decide), HR3.out.bytes⟩, by omega⟩⟩, HF5.out, ?_⟩
  exact (HT3.out.mono (by decide)).trans ((HT4.out.mono (by decide)).trans (HT5.out.mono (by decide)))
end Go.Proofs.YtdfkdgnhpdgphaaGreatDoor

/-
  db.writes: AddNode, DropNode, AddEdge. (The regions are printed by mk/dbg.py.)
-/
namespace Go.Proofs.YtdfkdgnhpdgphaaGreatDoor
open Go.RowKit Go.Proofs.Lig
attribute [local go_sem] run_store_float

/-- An op's cells: its kind, its id, its edge; nothing else. -/
def opCells (k id : Int) (v : EdgV) : List Value := [.int .i64 k, .int .i64 id, .int .i64 0, .slice none 0 0, .slice none 0 0, .int .i64 v.src, .int .i64 v.dst, .string v.ty, .float .f64 v.w, .string ⟨#[]⟩, .int .i64 0, .bool false, .int .i64 0, .float .f64 0, .string ⟨#[]⟩, .int .i64 0, .bool false, .int .i64 0, .float .f64 0, .string ⟨#[]⟩, .slice none 0 0, .slice none 0 0]
abbrev opVal (k id : Int) (v : EdgV) : Value := .agg (opCells k id v).toArray
abbrev ansVal (err id : Int) : Value := .agg (ansCells err id).toArray
abbrev ansZ : List Value := [.int .i64 0, .int .i64 0, .slice none 0 0, .slice none 0 0, .slice none 0 0, .int .i64 0, .int .i64 0, .string ⟨#[]⟩, .float .f64 0, .slice none 0 0, .float .f64 0, .bool false]
set_option maxRecDepth 100000 in
theorem size_op : (Tryz.prog.info? 50).map (·.size) = some 22 := by kernel_rfl
theorem size_ans : (Tryz.prog.info? 41).map (·.size) = some 12 := by kernel_rfl
theorem ans_all (err id : Int) : (ansCells err id).toArray.all (·.oneCell') = true := by simp [ansCells, Value.oneCell']
set_option maxRecDepth 100000 in
theorem ansZ_all : ansZ.toArray.all (·.oneCell') = true := by simp [Value.oneCell']
theorem op_cells (k id : Int) (v : EdgV) : (opVal k id v).cells = (opCells k id v).toArray := rfl
/-- A store of one cell into a block. -/
theorem TFr.set_one {w : World} {g : Nat} {t : TypeId} {cs : List Value} (h : Blk w g t cs) (i : Nat) (u : Value) : TFr [t] w (w.setCell ⟨g, i, none⟩ u) := TFr.of_fr ((Fr.refl [g] w).setCell (p := ⟨g, i, none⟩) (by simp) _) (fun k hk => by
  obtain rfl : k = g := by simpa using hk
  exact ⟨_, _, _, h, by simp⟩)
set_option maxRecDepth 100000 in
theorem TFr.set_all {w w' : World} {g : Nat} {t : TypeId} {cs : List Value} (h : Blk w g t cs) (hf : Fr [g] w w') : TFr [t] w w' := TFr.of_fr hf (fun k hk => by
  obtain rfl : k = g := by simpa using hk
  exact ⟨_, _, _, h, by simp⟩)
/-- The memory that an answering function begins with. -/
structure Ans3 (w w' : World) (k id : Int) (v : EdgV) (a b : List Value) : Prop where
  op : Blk w' w.heap.size 50 (opCells k id v)
  out : Blk w' (w.heap.size + 1) 41 a
  loc : Blk w' (w.heap.size + 2) 41 b
  tfr : Below w.heap.size w w'
abbrev w3of (w : World) (k id : Int) (v : EdgV) : World := ((w.alloc (.cells (opCells k id v).toArray 50)).alloc (.cells ansZ.toArray 41)).alloc (.cells ansZ.toArray 41)
set_option maxRecDepth 100000 in
theorem ans3 (w : World) (k id : Int) (v : EdgV) : Ans3 w (w3of w k id v) k id v ansZ ansZ := by
  have b1 := below_alloc w (.cells (opCells k id v).toArray 50)
  have k1 := Blk.new w 50 (opCells k id v)
  have k2 := Blk.new (w.alloc (.cells (opCells k id v).toArray 50)) 41 ansZ
  have k3 := Blk.new ((w.alloc (.cells (opCells k id v).toArray 50)).alloc (.cells ansZ.toArray 41)) 41 ansZ
  simp only [World.size_alloc] at k2 k3
  exact ⟨(k1.alloc _).alloc _, k2.alloc _, k3, (b1.alloc (by simp) _).alloc (by simp; omega) _⟩
section
variable {O : Nat → Prop} {w : World} {B s : Nat} {cs : List Value} {p : StoP} {d : StoD}
-- BODIES
set_option maxHeartbeats 4000000 in
set_option maxRecDepth 100000 in
theorem writes_node (h : Blk w B 87 cs) (h0 : cs[0]? = some (pt s)) (hS : StoA O w s p d) (hO : NewO O w) (t : Int) (hl : d.c.live t = true) (hn : d.ns.length < 24) (v : Int) (hv : (d.ns.length : Int) + 1 = v) :
    Calls Tryz.prog 58 #[pt B, .int .i64 t, opVal 4 (0) (z0)] w fun e w' => e = .returned (ansVal (0) (v)) ∧ Sto O w' s { d with ns := d.ns ++ [[⟨t, e0, false⟩]] } ∧ FrO O w w' ∧ TFr stoT w w' := by
  have HLV := hid hl
  have HNN := hid hn
  have HVV := hid hv
  have A3 := hid (ans3 w 4 (0) (z0))
  have OX := hid hO
  have HX := hid h
  have HSX := hid hS
  have H0 := hid h0
  clear h hS hO h0 hl hn hv
  go_enter Tryz.func58, Tryz.ntmps58
  go_wp2_with (first
    | (refine wpList_store_blk rfl 41 _ _ rfl (w.heap.size + 2) 41 ansZ ansZ A3.out.loc rfl rfl rfl size_ans ansZ_all ?_
       intro w9 k9 f9
       have B9 := hid (A3.out.tfr.trans (f9.below (by simp; omega) (by simp)))
       have K9 := hid k9
       have F9 := hid f9
       have o0 : w9.cell? ⟨w.heap.size, 0, none⟩ = some (.int .i64 4) := (A3.out.op.fr f9 (by simp)).cell 0
       clear k9 f9))
  have b3 := bstep0 B9.out (below_drew _)
  have HTA : Hid (TFr stoT w w9.drew) := .of_below b3
  have HFA : Hid (FrO O w w9.drew) := .of_below b3
  have KX : Hid (Blk w9.drew B 87 cs) := HX.out.tfr (ts := []) (.of_below b3) (by simp)
  have KP : Hid (Blk w9.drew w.heap.size 50 (opCells 4 (0) (z0))) := (A3.out.op.fr F9.out (by simp)).drew
  have KQ : Hid (Blk w9.drew (w.heap.size + 1) 41 ansZ) := (A3.out.out.fr F9.out (by simp)).drew
  have KA : Hid (Blk w9.drew (w.heap.size + 2) 41 ansZ) := K9.out.drew
  have SX : Hid (StoA O w9.drew s p d) := HSX.out.tfr (ts := []) (.of_below b3) (by simp)
  have OX3 : Hid (NewO O w9.drew) := OX.out.step b3.size
  have HC := hid (sto_addNode SX.out OX3.out t HLV.out HNN.out v HVV.out)
  have KEEP : Hid (∀ W, TFr (41 :: stoT) w9.drew W → W.cell? ⟨B, 0, none⟩ = some (pt s) ∧ W.cell? ⟨w.heap.size, 3, none⟩ = some (.slice none 0 0) ∧ W.cell? ⟨w.heap.size, 4, none⟩ = some (.slice none 0 0)) := fun W hW => ⟨((KX.out.tfr hW (by decide)).cell 0).trans H0.out, (KP.out.tfr hW (by decide)).cell 3, (KP.out.tfr hW (by decide)).cell 4⟩
  clear o0 b3
  refine wp_region_held_drew (S := fun W => W.cell? ⟨B, 0, none⟩ = some (pt s) ∧ W.cell? ⟨w.heap.size, 3, none⟩ = some (.slice none 0 0) ∧ W.cell? ⟨w.heap.size, 4, none⟩ = some (.slice none 0 0)) (by kernel_rfl) (KEEP.out w9.drew (.refl _ _)) (fun hHeld => ?_)
  generalize World.drew w9 = x0 at *
  refine wpAnyH_take (i := 0) (oi := { dst := some 14, op := Op.move (Operand.tmp 0), type := 24, pos := "db.go:91", after := #[], guard := none }) (v := ?_) rfl (by kernel_rfl) (by kernel_rfl) (by kernel_rfl) (fun _ _ _ h => h) (Or.inl ⟨by rfl, ?_⟩) hHeld ?_
  rotate_left
  · (intro W1 hSw; (try dsimp only at hSw); go_simp; first | done | (with_reducible rfl))
  try simp only [Act.put, List.setIfInBounds_toArray, List.set_cons_zero, List.set_cons_succ]
  refine wpAnyH_take (i := 1) (oi := { dst := some 15, op := Op.nilCheck (Operand.tmp 14), type := 0, pos := "db.go:91", after := #[{ on := 0, ground := Ground.data }], guard := none }) (v := ?_) rfl (by kernel_rfl) (by kernel_rfl) (by kernel_rfl) (fun _ _ _ h => h) (Or.inl ⟨by rfl, ?_⟩) hHeld ?_
  rotate_left
  · (intro W1 hSw; (try dsimp only at hSw); go_simp; first | done | (with_reducible rfl))
  try simp only [Act.put, List.setIfInBounds_toArray, List.set_cons_zero, List.set_cons_succ]
  refine wpAnyH_take (i := 2) (oi := { dst := some 16, op := Op.fieldAddr 87 (Operand.tmp 15) 0, type := 0, pos := "db.go:91", after := #[{ on := 1, ground := Ground.data }], guard := none }) (v := ?_) rfl (by kernel_rfl) (by kernel_rfl) (by kernel_rfl) (fun _ _ _ h => h) (Or.inl ⟨by rfl, ?_⟩) hHeld ?_
  rotate_left
  · (intro W1 hSw; (try dsimp only at hSw); go_simp; first | done | (with_reducible rfl))
  try simp only [Act.put, List.setIfInBounds_toArray, List.set_cons_zero, List.set_cons_succ]
  refine wpAnyH_take (i := 3) (oi := { dst := some 17, op := Op.load 56 (Operand.tmp 16), type := 56, pos := "db.go:91", after := #[{ on := 2, ground := Ground.data }], guard := none }) (v := ?_) rfl (by kernel_rfl) (by kernel_rfl) (by kernel_rfl) (fun _ _ _ h => h) (Or.inl ⟨by rfl, ?_⟩) hHeld ?_
  rotate_left
  · (intro W1 hSw; (try dsimp only at hSw); go_simp; first | done | (with_reducible rfl))
  try simp only [Act.put, List.setIfInBounds_toArray, List.set_cons_zero, List.set_cons_succ]
  refine wpAnyH_take (i := 4) (oi := { dst := some 18, op := Op.move (Operand.tmp 1), type := 3, pos := "db.go:91", after := #[], guard := none }) (v := ?_) rfl (by kernel_rfl) (by kernel_rfl) (by kernel_rfl) (fun _ _ _ h => h) (Or.inl ⟨by rfl, ?_⟩) hHeld ?_
  rotate_left
  · (intro W1 hSw; (try dsimp only at hSw); go_simp; first | done | (with_reducible rfl))
  try simp only [Act.put, List.setIfInBounds_toArray, List.set_cons_zero, List.set_cons_succ]
  refine wpAnyH_take (i := 5) (oi := { dst := some 19, op := Op.fieldAddr 50 (Operand.tmp 5) 3, type := 0, pos := "db.go:91", after := #[], guard := none }) (v := ?_) rfl (by kernel_rfl) (by kernel_rfl) (by kernel_rfl) (fun _ _ _ h => h) (Or.inl ⟨by rfl, ?_⟩) hHeld ?_
  rotate_left
  · (intro W1 hSw; (try dsimp only at hSw); go_simp; first | done | (with_reducible rfl))
  try simp only [Act.put, List.setIfInBounds_toArray, List.set_cons_zero, List.set_cons_succ]
  refine wpAnyH_take (i := 6) (oi := { dst := some 20, op := Op.load 35 (Operand.tmp 19), type := 35, pos := "db.go:91", after := #[{ on := 5, ground := Ground.data }], guard := none }) (v := ?_) rfl (by kernel_rfl) (by kernel_rfl) (by kernel_rfl) (fun _ _ _ h => h) (Or.inl ⟨by rfl, ?_⟩) hHeld ?_
  rotate_left
  · (intro W1 hSw; (try dsimp only at hSw); go_simp; first | done | (with_reducible rfl))
  try simp only [Act.put, List.setIfInBounds_toArray, List.set_cons_zero, List.set_cons_succ]
  refine wpAnyH_ready (rs := [7]) (by kernel_rfl) (by simp) ?_
  refine AllReadyH.cons (o := { dst := some 21, op := Op.call { callee := Callee.value (Operand.func 128), args := #[Operand.tmp 17, Operand.tmp 18, Operand.tmp 20], argTypes := #[56, 3, 35] }, type := 145, pos := "db.go:91", after := #[{ on := 3, ground := Ground.data }, { on := 4, ground := Ground.data }, { on := 6, ground := Ground.data }], guard := none }) rfl (fun K hK => ?_) AllReadyH.nil
  rw [if_pos (by rfl)]
  go_simp
  go_at_call 128
  refine HC.out.mono ?_
  rintro e x1 ⟨rfl, S1, F1, T1⟩
  have HS1 := hid S1
  have T01 := T1.mono (ts' := 41 :: stoT) (by simp +contextual)
  have j1 := KA.out.tfr T1 (by decide)
  have q1 := hid (KQ.out.tfr T1 (by decide))
  have l1 := j1.lt
  have HTW1 := hid (HTA.out.trans T1)
  have HFW1 := hid (HFA.out.trans F1)
  have c1_1 : x1.cell? ⟨w.heap.size + 2, 1, none⟩ = some (.int .i64 0) := j1.cell 1
  have f1_1 := j1.frozen 1
  have c0_1 : x1.cell? ⟨w.heap.size + 2, 0, none⟩ = some (.int .i64 0) := j1.cell 0
  have f0_1 := j1.frozen 0
  have J1 := hid j1
  clear S1 F1 T1 j1
  refine hK.out _ _ (KEEP.out _ T01) (fun hHeld => ?_)
  have HT1 := hid T01
  clear T01
  clear hK K
  try simp only [Act.put, List.setIfInBounds_toArray, List.set_cons_zero, List.set_cons_succ]
  refine wpAnyH_take (i := 8) (oi := { dst := some 13, op := Op.move (Operand.tmp 21), type := 145, pos := "db.go:91", after := #[{ on := 7, ground := Ground.data }], guard := none }) (v := ?_) rfl (by kernel_rfl) (by kernel_rfl) (by kernel_rfl) (fun _ _ _ h => h) (Or.inl ⟨by rfl, ?_⟩) hHeld ?_
  rotate_left
  · (intro W1 hSw; (try dsimp only at hSw); go_simp; first | done | (with_reducible rfl))
  try simp only [Act.put, List.setIfInBounds_toArray, List.set_cons_zero, List.set_cons_succ]
  refine wpAnyH_take (i := 9) (oi := { dst := some 22, op := Op.extract (Operand.tmp 13) 0, type := 3, pos := "db.go:91", after := #[{ on := 8, ground := Ground.data }], guard := none }) (v := ?_) rfl (by kernel_rfl) (by kernel_rfl) (by kernel_rfl) (fun _ _ _ h => h) (Or.inl ⟨by rfl, ?_⟩) hHeld ?_
  rotate_left
  · (intro W1 hSw; (try dsimp only at hSw); go_simp; first | done | (with_reducible rfl))
  try simp only [Act.put, List.setIfInBounds_toArray, List.set_cons_zero, List.set_cons_succ]
  refine wpAnyH_take (i := 10) (oi := { dst := some 23, op := Op.extract (Operand.tmp 13) 1, type := 30, pos := "db.go:91", after := #[{ on := 8, ground := Ground.data }, { on := 12, ground := Ground.gcOnly Departure.lateStores }], guard := none }) (v := ?_) rfl (by kernel_rfl) (by kernel_rfl) (by kernel_rfl) (fun _ _ _ h => h) (Or.inl ⟨by rfl, ?_⟩) hHeld ?_
  rotate_left
  · (intro W1 hSw; (try dsimp only at hSw); go_simp; first | done | (with_reducible rfl))
  try simp only [Act.put, List.setIfInBounds_toArray, List.set_cons_zero, List.set_cons_succ]
  refine wpAnyH_take (i := 11) (oi := { dst := some 24, op := Op.fieldAddr 41 (Operand.tmp 7) 1, type := 0, pos := "db.go:91", after := #[{ on := 0, ground := Ground.phase }, { on := 1, ground := Ground.phase }, { on := 2, ground := Ground.phase }, { on := 3, ground := Ground.phase }, { on := 4, ground := Ground.phase }, { on := 5, ground := Ground.phase }, { on := 6, ground := Ground.phase }, { on := 7, ground := Ground.phase }, { on := 8, ground := Ground.phase }, { on := 9, ground := Ground.phase }, { on := 10, ground := Ground.textOnly Departure.lateStores }], guard := none }) (v := ?_) rfl (by kernel_rfl) (by kernel_rfl) (by kernel_rfl) (fun _ _ _ h => h) (Or.inl ⟨by rfl, ?_⟩) hHeld ?_
  rotate_left
  · (intro W1 hSw; (try dsimp only at hSw); go_simp; first | done | (with_reducible rfl))
  try simp only [Act.put, List.setIfInBounds_toArray, List.set_cons_zero, List.set_cons_succ]
  refine wpAnyH_ready (rs := [12]) (by kernel_rfl) (by simp) ?_
  refine AllReadyH.cons (o := { dst := none, op := Op.store 3 (Operand.tmp 24) (Operand.tmp 22), type := 0, pos := "db.go:91", after := #[{ on := 11, ground := Ground.data }, { on := 9, ground := Ground.data }, { on := 7, ground := Ground.chain }, { on := 0, ground := Ground.phase }, { on := 1, ground := Ground.phase }, { on := 2, ground := Ground.phase }, { on := 3, ground := Ground.phase }, { on := 4, ground := Ground.phase }, { on := 5, ground := Ground.phase }, { on := 6, ground := Ground.phase }, { on := 7, ground := Ground.phase }, { on := 8, ground := Ground.phase }, { on := 9, ground := Ground.phase }, { on := 10, ground := Ground.textOnly Departure.lateStores }], guard := none }) rfl (fun K hK => ?_) AllReadyH.nil
  rw [if_pos (by rfl)]
  go_simp
  have j2 := J1.out.set_ 1 (.int .i64 v)
  have q2 := q1.out.far (p := ⟨w.heap.size + 2, 1, none⟩) (by simp) (.int .i64 v)
  have t2 := TFr.set_one J1.out 1 (.int .i64 v)
  have HTW2 := hid (TFr.fr_new HTW1.out ((Fr.refl [w.heap.size + 2] x1).setCell (p := ⟨w.heap.size + 2, 1, none⟩) (by simp) (.int .i64 v)) (by omega))
  have HFW2 := hid (FrO.fr_new HFW1.out ((Fr.refl [w.heap.size + 2] x1).setCell (p := ⟨w.heap.size + 2, 1, none⟩) (by simp) (.int .i64 v)) (by omega))
  have T02 := HT1.out.trans (t2.mono (ts' := 41 :: stoT) (by simp))
  refine hK.out _ _ (KEEP.out _ T02) (fun hHeld => ?_)
  generalize World.setCell x1 ⟨w.heap.size + 2, 1, none⟩ (.int .i64 v) = x2 at *
  have c0_2 : x2.cell? ⟨w.heap.size + 2, 0, none⟩ = some (.int .i64 0) := j2.cell 0
  have f0_2 := j2.frozen 0
  have l2 := j2.lt
  have J2 := hid j2
  have HT2 := hid T02
  have Q2 := hid q2
  have R2 := hid t2
  clear j2 T02 q2 t2
  clear hK K
  try simp only [Act.put, List.setIfInBounds_toArray, List.set_cons_zero, List.set_cons_succ]
  refine wpAnyH_take (i := 13) (oi := { dst := some 25, op := Op.fieldAddr 41 (Operand.tmp 7) 0, type := 0, pos := "db.go:91", after := #[{ on := 0, ground := Ground.phase }, { on := 1, ground := Ground.phase }, { on := 2, ground := Ground.phase }, { on := 3, ground := Ground.phase }, { on := 4, ground := Ground.phase }, { on := 5, ground := Ground.phase }, { on := 6, ground := Ground.phase }, { on := 7, ground := Ground.phase }, { on := 8, ground := Ground.phase }, { on := 9, ground := Ground.phase }, { on := 10, ground := Ground.phase }, { on := 11, ground := Ground.phase }, { on := 12, ground := Ground.phase }], guard := none }) (v := ?_) rfl (by kernel_rfl) (by kernel_rfl) (by kernel_rfl) (fun _ _ _ h => h) (Or.inl ⟨by rfl, ?_⟩) hHeld ?_
  rotate_left
  · (intro W1 hSw; (try dsimp only at hSw); go_simp; first | done | (with_reducible rfl))
  try simp only [Act.put, List.setIfInBounds_toArray, List.set_cons_zero, List.set_cons_succ]
  refine wpAnyH_ready (rs := [14]) (by kernel_rfl) (by simp) ?_
  refine AllReadyH.cons (o := { dst := none, op := Op.store 30 (Operand.tmp 25) (Operand.tmp 23), type := 0, pos := "db.go:91", after := #[{ on := 13, ground := Ground.data }, { on := 10, ground := Ground.data }, { on := 12, ground := Ground.chain }, { on := 0, ground := Ground.phase }, { on := 1, ground := Ground.phase }, { on := 2, ground := Ground.phase }, { on := 3, ground := Ground.phase }, { on := 4, ground := Ground.phase }, { on := 5, ground := Ground.phase }, { on := 6, ground := Ground.phase }, { on := 7, ground := Ground.phase }, { on := 8, ground := Ground.phase }, { on := 9, ground := Ground.phase }, { on := 10, ground := Ground.phase }, { on := 11, ground := Ground.phase }, { on := 12, ground := Ground.phase }], guard := none }) rfl (fun K hK => ?_) AllReadyH.nil
  rw [if_pos (by rfl)]
  go_simp
  have j3 := J2.out.set_ 0 (.int .i64 0)
  have q3 := Q2.out.far (p := ⟨w.heap.size + 2, 0, none⟩) (by simp) (.int .i64 0)
  have t3 := TFr.set_one J2.out 0 (.int .i64 0)
  have HTW3 := hid (TFr.fr_new HTW2.out ((Fr.refl [w.heap.size + 2] x2).setCell (p := ⟨w.heap.size + 2, 0, none⟩) (by simp) (.int .i64 0)) (by omega))
  have HFW3 := hid (FrO.fr_new HFW2.out ((Fr.refl [w.heap.size + 2] x2).setCell (p := ⟨w.heap.size + 2, 0, none⟩) (by simp) (.int .i64 0)) (by omega))
  have T03 := HT2.out.trans (t3.mono (ts' := 41 :: stoT) (by simp))
  refine hK.out _ _ (KEEP.out _ T03) (fun hHeld => ?_)
  generalize World.setCell x2 ⟨w.heap.size + 2, 0, none⟩ (.int .i64 0) = x3 at *
  have l3 := j3.lt
  have J3 := hid j3
  have HT3 := hid T03
  have Q3 := hid q3
  have R3 := hid t3
  clear j3 T03 q3 t3
  clear hK K
  try simp only [Act.put, List.setIfInBounds_toArray, List.set_cons_zero, List.set_cons_succ]
  refine wpAnyH_done (by kernel_rfl) ?_ _
  have KF : Hid (Blk x3 (w.heap.size + 2) 41 (ansCells (0) (v))) := J3
  have HSF := hid ((HS1.out.tfr R2.out (by decide)).tfr R3.out (by decide))
  clear hHeld
  go_wp2_with (first
    | (refine wpList_load_blk rfl 41 _ rfl (w.heap.size + 2) 41 (ansCells (0) (v)) _ KF.out rfl Tryz.underlying41 rfl size_ans ?_)
    | (refine wpList_store_blk rfl 41 _ _ rfl (w.heap.size + 1) 41 ansZ (ansCells (0) (v)) Q3.out rfl rfl rfl size_ans (ans_all _ _) ?_
       intro w9 K9 F9))
  have t9 := TFr.set_all Q3.out F9
  exact bodyPost_ret (res_agg rfl _ _ (w.heap.size + 1) 41 (ansCells (0) (v)) _ K9 rfl Tryz.underlying41 rfl size_ans) rfl ⟨rfl, HSF.out.tfr t9 (by decide), FrO.fr_new HFW3.out F9 (by omega), TFr.fr_new HTW3.out F9 (by omega)⟩
set_option maxHeartbeats 4000000 in
set_option maxRecDepth 100000 in
theorem writes_drop (h : Blk w B 87 cs) (h0 : cs[0]? = some (pt s)) (hS : StoA O w s p d) (hO : NewO O w) (t : Int) (i : Nat) (l : List (Ver NodV)) (hl : d.ns[i]? = some l) (hlv : d.c.live t = true) (hok : (Cel.lastBy (d.c.sees t) l).isSome = true) (hn : l.length ≤ 1000000) (hco : Unseen d d.co t ((i : Int) + 1)) (hci : Unseen d d.ci t ((i : Int) + 1)) (b : Bool) (hb : Cel.blocked d.c l t = b) (hu : b = true → Untouched d t) (er : Int) (her : (if b then (6 : Int) else 0) = er) (dd : StoD) (hdd : (if b then { d with c := d.c.dropped t } else { d with ns := d.ns.set i (Cel.written l t e0 true) }) = dd) :
    Calls Tryz.prog 58 #[pt B, .int .i64 t, opVal 6 ((i : Int) + 1) (z0)] w fun e w' => e = .returned (ansVal (er) (0)) ∧ StoA O w' s p dd ∧ FrO O w w' ∧ TFr stoT w w' := by
  have Hhl := hid hl
  have Hhlv := hid hlv
  have Hhok := hid hok
  have Hhn := hid hn
  have Hhco := hid hco
  have Hhci := hid hci
  have Hhb := hid hb
  have Hhu := hid hu
  have Hher := hid her
  have Hhdd := hid hdd
  have A3 := hid (ans3 w 6 ((i : Int) + 1) (z0))
  have OX := hid hO
  have HX := hid h
  have HSX := hid hS
  have H0 := hid h0
  clear h hS hO h0 hl hlv hok hn hco hci hb hu her hdd
  go_enter Tryz.func58, Tryz.ntmps58
  go_wp2_with (first
    | (refine wpList_store_blk rfl 41 _ _ rfl (w.heap.size + 2) 41 ansZ ansZ A3.out.loc rfl rfl rfl size_ans ansZ_all ?_
       intro w9 k9 f9
       have B9 := hid (A3.out.tfr.trans (f9.below (by simp; omega) (by simp)))
       have K9 := hid k9
       have F9 := hid f9
       have o0 : w9.cell? ⟨w.heap.size, 0, none⟩ = some (.int .i64 6) := (A3.out.op.fr f9 (by simp)).cell 0
       clear k9 f9))
  have b3 := bstep0 B9.out (below_drew _)
  have HTA : Hid (TFr stoT w w9.drew) := .of_below b3
  have HFA : Hid (FrO O w w9.drew) := .of_below b3
  have KX : Hid (Blk w9.drew B 87 cs) := HX.out.tfr (ts := []) (.of_below b3) (by simp)
  have KP : Hid (Blk w9.drew w.heap.size 50 (opCells 6 ((i : Int) + 1) (z0))) := (A3.out.op.fr F9.out (by simp)).drew
  have KQ : Hid (Blk w9.drew (w.heap.size + 1) 41 ansZ) := (A3.out.out.fr F9.out (by simp)).drew
  have KA : Hid (Blk w9.drew (w.heap.size + 2) 41 ansZ) := K9.out.drew
  have SX : Hid (StoA O w9.drew s p d) := HSX.out.tfr (ts := []) (.of_below b3) (by simp)
  have OX3 : Hid (NewO O w9.drew) := OX.out.step b3.size
  have HC := hid (by have := sto_dropNode SX.out OX3.out t i l Hhl.out Hhlv.out Hhok.out Hhn.out Hhco.out Hhci.out b Hhb.out Hhu.out; rw [Hher.out, Hhdd.out] at this; exact this)
  have KEEP : Hid (∀ W, TFr (41 :: stoT) w9.drew W → W.cell? ⟨B, 0, none⟩ = some (pt s) ∧ W.cell? ⟨w.heap.size, 1, none⟩ = some (.int .i64 ((i : Int) + 1))) := fun W hW => ⟨((KX.out.tfr hW (by decide)).cell 0).trans H0.out, (KP.out.tfr hW (by decide)).cell 1⟩
  clear o0 b3
  refine wp_region_held_drew (S := fun W => W.cell? ⟨B, 0, none⟩ = some (pt s) ∧ W.cell? ⟨w.heap.size, 1, none⟩ = some (.int .i64 ((i : Int) + 1))) (by kernel_rfl) (KEEP.out w9.drew (.refl _ _)) (fun hHeld => ?_)
  generalize World.drew w9 = x0 at *
  refine wpAnyH_take (i := 0) (oi := { dst := some 41, op := Op.move (Operand.tmp 0), type := 24, pos := "db.go:95", after := #[], guard := none }) (v := ?_) rfl (by kernel_rfl) (by kernel_rfl) (by kernel_rfl) (fun _ _ _ h => h) (Or.inl ⟨by rfl, ?_⟩) hHeld ?_
  rotate_left
  · (intro W1 hSw; (try dsimp only at hSw); go_simp; first | done | (with_reducible rfl))
  try simp only [Act.put, List.setIfInBounds_toArray, List.set_cons_zero, List.set_cons_succ]
  refine wpAnyH_take (i := 1) (oi := { dst := some 42, op := Op.nilCheck (Operand.tmp 41), type := 0, pos := "db.go:95", after := #[{ on := 0, ground := Ground.data }], guard := none }) (v := ?_) rfl (by kernel_rfl) (by kernel_rfl) (by kernel_rfl) (fun _ _ _ h => h) (Or.inl ⟨by rfl, ?_⟩) hHeld ?_
  rotate_left
  · (intro W1 hSw; (try dsimp only at hSw); go_simp; first | done | (with_reducible rfl))
  try simp only [Act.put, List.setIfInBounds_toArray, List.set_cons_zero, List.set_cons_succ]
  refine wpAnyH_take (i := 2) (oi := { dst := some 43, op := Op.fieldAddr 87 (Operand.tmp 42) 0, type := 0, pos := "db.go:95", after := #[{ on := 1, ground := Ground.data }], guard := none }) (v := ?_) rfl (by kernel_rfl) (by kernel_rfl) (by kernel_rfl) (fun _ _ _ h => h) (Or.inl ⟨by rfl, ?_⟩) hHeld ?_
  rotate_left
  · (intro W1 hSw; (try dsimp only at hSw); go_simp; first | done | (with_reducible rfl))
  try simp only [Act.put, List.setIfInBounds_toArray, List.set_cons_zero, List.set_cons_succ]
  refine wpAnyH_take (i := 3) (oi := { dst := some 44, op := Op.load 56 (Operand.tmp 43), type := 56, pos := "db.go:95", after := #[{ on := 2, ground := Ground.data }], guard := none }) (v := ?_) rfl (by kernel_rfl) (by kernel_rfl) (by kernel_rfl) (fun _ _ _ h => h) (Or.inl ⟨by rfl, ?_⟩) hHeld ?_
  rotate_left
  · (intro W1 hSw; (try dsimp only at hSw); go_simp; first | done | (with_reducible rfl))
  try simp only [Act.put, List.setIfInBounds_toArray, List.set_cons_zero, List.set_cons_succ]
  refine wpAnyH_take (i := 4) (oi := { dst := some 45, op := Op.move (Operand.tmp 1), type := 3, pos := "db.go:95", after := #[], guard := none }) (v := ?_) rfl (by kernel_rfl) (by kernel_rfl) (by kernel_rfl) (fun _ _ _ h => h) (Or.inl ⟨by rfl, ?_⟩) hHeld ?_
  rotate_left
  · (intro W1 hSw; (try dsimp only at hSw); go_simp; first | done | (with_reducible rfl))
  try simp only [Act.put, List.setIfInBounds_toArray, List.set_cons_zero, List.set_cons_succ]
  refine wpAnyH_take (i := 5) (oi := { dst := some 46, op := Op.fieldAddr 50 (Operand.tmp 5) 1, type := 0, pos := "db.go:95", after := #[], guard := none }) (v := ?_) rfl (by kernel_rfl) (by kernel_rfl) (by kernel_rfl) (fun _ _ _ h => h) (Or.inl ⟨by rfl, ?_⟩) hHeld ?_
  rotate_left
  · (intro W1 hSw; (try dsimp only at hSw); go_simp; first | done | (with_reducible rfl))
  try simp only [Act.put, List.setIfInBounds_toArray, List.set_cons_zero, List.set_cons_succ]
  refine wpAnyH_take (i := 6) (oi := { dst := some 47, op := Op.load 3 (Operand.tmp 46), type := 3, pos := "db.go:95", after := #[{ on := 5, ground := Ground.data }], guard := none }) (v := ?_) rfl (by kernel_rfl) (by kernel_rfl) (by kernel_rfl) (fun _ _ _ h => h) (Or.inl ⟨by rfl, ?_⟩) hHeld ?_
  rotate_left
  · (intro W1 hSw; (try dsimp only at hSw); go_simp; first | done | (with_reducible rfl))
  try simp only [Act.put, List.setIfInBounds_toArray, List.set_cons_zero, List.set_cons_succ]
  refine wpAnyH_ready (rs := [7]) (by kernel_rfl) (by simp) ?_
  refine AllReadyH.cons (o := { dst := some 48, op := Op.call { callee := Callee.value (Operand.func 130), args := #[Operand.tmp 44, Operand.tmp 45, Operand.tmp 47], argTypes := #[56, 3, 3] }, type := 30, pos := "db.go:95", after := #[{ on := 3, ground := Ground.data }, { on := 4, ground := Ground.data }, { on := 6, ground := Ground.data }], guard := none }) rfl (fun K hK => ?_) AllReadyH.nil
  rw [if_pos (by rfl)]
  go_simp
  go_at_call 130
  refine HC.out.mono ?_
  rintro e x1 ⟨rfl, S1, F1, T1⟩
  have HS1 := hid S1
  have T01 := T1.mono (ts' := 41 :: stoT) (by simp +contextual)
  have j1 := KA.out.tfr T1 (by decide)
  have q1 := hid (KQ.out.tfr T1 (by decide))
  have l1 := j1.lt
  have HTW1 := hid (HTA.out.trans T1)
  have HFW1 := hid (HFA.out.trans F1)
  have c0_1 : x1.cell? ⟨w.heap.size + 2, 0, none⟩ = some (.int .i64 0) := j1.cell 0
  have f0_1 := j1.frozen 0
  have J1 := hid j1
  clear S1 F1 T1 j1
  refine hK.out _ _ (KEEP.out _ T01) (fun hHeld => ?_)
  have HT1 := hid T01
  clear T01
  clear hK K
  try simp only [Act.put, List.setIfInBounds_toArray, List.set_cons_zero, List.set_cons_succ]
  refine wpAnyH_take (i := 8) (oi := { dst := some 49, op := Op.fieldAddr 41 (Operand.tmp 7) 0, type := 0, pos := "db.go:95", after := #[{ on := 0, ground := Ground.phase }, { on := 1, ground := Ground.phase }, { on := 2, ground := Ground.phase }, { on := 3, ground := Ground.phase }, { on := 4, ground := Ground.phase }, { on := 5, ground := Ground.phase }, { on := 6, ground := Ground.phase }, { on := 7, ground := Ground.phase }], guard := none }) (v := ?_) rfl (by kernel_rfl) (by kernel_rfl) (by kernel_rfl) (fun _ _ _ h => h) (Or.inl ⟨by rfl, ?_⟩) hHeld ?_
  rotate_left
  · (intro W1 hSw; (try dsimp only at hSw); go_simp; first | done | (with_reducible rfl))
  try simp only [Act.put, List.setIfInBounds_toArray, List.set_cons_zero, List.set_cons_succ]
  refine wpAnyH_ready (rs := [9]) (by kernel_rfl) (by simp) ?_
  refine AllReadyH.cons (o := { dst := none, op := Op.store 30 (Operand.tmp 49) (Operand.tmp 48), type := 0, pos := "db.go:95", after := #[{ on := 8, ground := Ground.data }, { on := 7, ground := Ground.data }, { on := 7, ground := Ground.chain }, { on := 0, ground := Ground.phase }, { on := 1, ground := Ground.phase }, { on := 2, ground := Ground.phase }, { on := 3, ground := Ground.phase }, { on := 4, ground := Ground.phase }, { on := 5, ground := Ground.phase }, { on := 6, ground := Ground.phase }, { on := 7, ground := Ground.phase }], guard := none }) rfl (fun K hK => ?_) AllReadyH.nil
  rw [if_pos (by rfl)]
  go_simp
  have j2 := J1.out.set_ 0 (.int .i64 er)
  have q2 := q1.out.far (p := ⟨w.heap.size + 2, 0, none⟩) (by simp) (.int .i64 er)
  have t2 := TFr.set_one J1.out 0 (.int .i64 er)
  have HTW2 := hid (TFr.fr_new HTW1.out ((Fr.refl [w.heap.size + 2] x1).setCell (p := ⟨w.heap.size + 2, 0, none⟩) (by simp) (.int .i64 er)) (by omega))
  have HFW2 := hid (FrO.fr_new HFW1.out ((Fr.refl [w.heap.size + 2] x1).setCell (p := ⟨w.heap.size + 2, 0, none⟩) (by simp) (.int .i64 er)) (by omega))
  have T02 := HT1.out.trans (t2.mono (ts' := 41 :: stoT) (by simp))
  refine hK.out _ _ (KEEP.out _ T02) (fun hHeld => ?_)
  generalize World.setCell x1 ⟨w.heap.size + 2, 0, none⟩ (.int .i64 er) = x2 at *
  have l2 := j2.lt
  have J2 := hid j2
  have HT2 := hid T02
  have Q2 := hid q2
  have R2 := hid t2
  clear j2 T02 q2 t2
  clear hK K
  try simp only [Act.put, List.setIfInBounds_toArray, List.set_cons_zero, List.set_cons_succ]
  refine wpAnyH_done (by kernel_rfl) ?_ _
  have KF : Hid (Blk x2 (w.heap.size + 2) 41 (ansCells (er) (0))) := J2
  have HSF := hid (HS1.out.tfr R2.out (by decide))
  clear hHeld
  go_wp2_with (first
    | (refine wpList_load_blk rfl 41 _ rfl (w.heap.size + 2) 41 (ansCells (er) (0)) _ KF.out rfl Tryz.underlying41 rfl size_ans ?_)
    | (refine wpList_store_blk rfl 41 _ _ rfl (w.heap.size + 1) 41 ansZ (ansCells (er) (0)) Q2.out rfl rfl rfl size_ans (ans_all _ _) ?_
       intro w9 K9 F9))
  have t9 := TFr.set_all Q2.out F9
  exact bodyPost_ret (res_agg rfl _ _ (w.heap.size + 1) 41 (ansCells (er) (0)) _ K9 rfl Tryz.underlying41 rfl size_ans) rfl ⟨rfl, HSF.out.tfr t9 (by decide), FrO.fr_new HFW2.out F9 (by omega), TFr.fr_new HTW2.out F9 (by omega)⟩
set_option maxHeartbeats 4000000 in
set_option maxRecDepth 100000 in
theorem writes_edge (h : Blk w B 87 cs) (h0 : cs[0]? = some (pt s)) (hS : StoA O w s p d) (hO : NewO O w) (t : Int) (v : EdgV) (hE : ∀ W, Calls Tryz.prog 217 #[edgVal v] W fun e w' => e = .returned (.bool true) ∧ Below W.heap.size W w') (i j : Nat) (hvi : v.src = (i : Int) + 1) (hvj : v.dst = (j : Int) + 1) (l : List (Ver NodV)) (hl : d.ns[i]? = some l) (m : List (Ver NodV)) (hm : d.ns[j]? = some m) (hlv : d.c.live t = true) (hok : (Cel.lastBy (d.c.sees t) l).isSome = true) (hokm : (Cel.lastBy (d.c.sees t) m).isSome = true) (hne : d.es.length < 32) (b : Bool) (hb : barred d t [i, j] = b) (hu : b = true → Untouched d t) (ht : b = false → TouchOk d.c t d.ns [i, j]) (hco : b = false → d.co = none) (hci : b = false → d.ci = none) (er : Int) (her : (if b then (6 : Int) else 0) = er) (iv : Int) (hiv : (if b then (0 : Int) else (d.es.length : Int) + 1) = iv) (dd : StoD) (hdd : (if b then { d with c := d.c.dropped t } else { d with ns := touchedN t d.ns [i, j], es := d.es ++ [[⟨t, v, false⟩]], ends := d.ends ++ [(v.src, v.dst)], co := some (v.src, (d.es.length : Int) + 1), ci := some (v.dst, (d.es.length : Int) + 1) }) = dd) :
    Calls Tryz.prog 58 #[pt B, .int .i64 t, opVal 7 (0) (v)] w fun e w' => e = .returned (ansVal (er) (iv)) ∧ Sto O w' s dd ∧ FrO O w w' ∧ TFr stoT w w' := by
  have HhE := hid hE
  have Hhvi := hid hvi
  have Hhvj := hid hvj
  have Hhl := hid hl
  have Hhm := hid hm
  have Hhlv := hid hlv
  have Hhok := hid hok
  have Hhokm := hid hokm
  have Hhne := hid hne
  have Hhb := hid hb
  have Hhu := hid hu
  have Hht := hid ht
  have Hhco := hid hco
  have Hhci := hid hci
  have Hher := hid her
  have Hhiv := hid hiv
  have Hhdd := hid hdd
  have A3 := hid (ans3 w 7 (0) (v))
  have OX := hid hO
  have HX := hid h
  have HSX := hid hS
  have H0 := hid h0
  clear h hS hO h0 hE hvi hvj hl hm hlv hok hokm hne hb hu ht hco hci her hiv hdd
  go_enter Tryz.func58, Tryz.ntmps58
  go_wp2_with (first
    | (refine wpList_store_blk rfl 41 _ _ rfl (w.heap.size + 2) 41 ansZ ansZ A3.out.loc rfl rfl rfl size_ans ansZ_all ?_
       intro w9 k9 f9
       have B9 := hid (A3.out.tfr.trans (f9.below (by simp; omega) (by simp)))
       have K9 := hid k9
       have F9 := hid f9
       have o0 : w9.cell? ⟨w.heap.size, 0, none⟩ = some (.int .i64 7) := (A3.out.op.fr f9 (by simp)).cell 0
       clear k9 f9))
  have b3 := bstep0 B9.out (below_drew _)
  have HTA : Hid (TFr stoT w w9.drew) := .of_below b3
  have HFA : Hid (FrO O w w9.drew) := .of_below b3
  have KX : Hid (Blk w9.drew B 87 cs) := HX.out.tfr (ts := []) (.of_below b3) (by simp)
  have KP : Hid (Blk w9.drew w.heap.size 50 (opCells 7 (0) (v))) := (A3.out.op.fr F9.out (by simp)).drew
  have KQ : Hid (Blk w9.drew (w.heap.size + 1) 41 ansZ) := (A3.out.out.fr F9.out (by simp)).drew
  have KA : Hid (Blk w9.drew (w.heap.size + 2) 41 ansZ) := K9.out.drew
  have SX : Hid (StoA O w9.drew s p d) := HSX.out.tfr (ts := []) (.of_below b3) (by simp)
  have OX3 : Hid (NewO O w9.drew) := OX.out.step b3.size
  have HC := hid (by have := sto_addEdge SX.out OX3.out t v HhE.out i j Hhvi.out Hhvj.out l Hhl.out m Hhm.out Hhlv.out Hhok.out Hhokm.out Hhne.out b Hhb.out Hhu.out Hht.out Hhco.out Hhci.out; rw [Hher.out, Hhiv.out, Hhdd.out] at this; exact this)
  have KEEP : Hid (∀ W, TFr (41 :: stoT) w9.drew W → W.cell? ⟨B, 0, none⟩ = some (pt s) ∧ W.cell? ⟨w.heap.size, 5, none⟩ = some (.int .i64 v.src) ∧ W.cell? ⟨w.heap.size, 6, none⟩ = some (.int .i64 v.dst) ∧ W.cell? ⟨w.heap.size, 7, none⟩ = some (.string v.ty) ∧ W.cell? ⟨w.heap.size, 8, none⟩ = some (.float .f64 v.w)) := fun W hW => ⟨((KX.out.tfr hW (by decide)).cell 0).trans H0.out, (KP.out.tfr hW (by decide)).cell 5, (KP.out.tfr hW (by decide)).cell 6, (KP.out.tfr hW (by decide)).cell 7, (KP.out.tfr hW (by decide)).cell 8⟩
  clear o0 b3
  refine wp_region_held_drew (S := fun W => W.cell? ⟨B, 0, none⟩ = some (pt s) ∧ W.cell? ⟨w.heap.size, 5, none⟩ = some (.int .i64 v.src) ∧ W.cell? ⟨w.heap.size, 6, none⟩ = some (.int .i64 v.dst) ∧ W.cell? ⟨w.heap.size, 7, none⟩ = some (.string v.ty) ∧ W.cell? ⟨w.heap.size, 8, none⟩ = some (.float .f64 v.w)) (by kernel_rfl) (KEEP.out w9.drew (.refl _ _)) (fun hHeld => ?_)
  generalize World.drew w9 = x0 at *
  refine wpAnyH_take (i := 0) (oi := { dst := some 53, op := Op.move (Operand.tmp 0), type := 24, pos := "db.go:97", after := #[], guard := none }) (v := ?_) rfl (by kernel_rfl) (by kernel_rfl) (by kernel_rfl) (fun _ _ _ h => h) (Or.inl ⟨by rfl, ?_⟩) hHeld ?_
  rotate_left
  · (intro W1 hSw; (try dsimp only at hSw); go_simp; first | done | (with_reducible rfl))
  try simp only [Act.put, List.setIfInBounds_toArray, List.set_cons_zero, List.set_cons_succ]
  refine wpAnyH_take (i := 1) (oi := { dst := some 54, op := Op.nilCheck (Operand.tmp 53), type := 0, pos := "db.go:97", after := #[{ on := 0, ground := Ground.data }], guard := none }) (v := ?_) rfl (by kernel_rfl) (by kernel_rfl) (by kernel_rfl) (fun _ _ _ h => h) (Or.inl ⟨by rfl, ?_⟩) hHeld ?_
  rotate_left
  · (intro W1 hSw; (try dsimp only at hSw); go_simp; first | done | (with_reducible rfl))
  try simp only [Act.put, List.setIfInBounds_toArray, List.set_cons_zero, List.set_cons_succ]
  refine wpAnyH_take (i := 2) (oi := { dst := some 55, op := Op.fieldAddr 87 (Operand.tmp 54) 0, type := 0, pos := "db.go:97", after := #[{ on := 1, ground := Ground.data }], guard := none }) (v := ?_) rfl (by kernel_rfl) (by kernel_rfl) (by kernel_rfl) (fun _ _ _ h => h) (Or.inl ⟨by rfl, ?_⟩) hHeld ?_
  rotate_left
  · (intro W1 hSw; (try dsimp only at hSw); go_simp; first | done | (with_reducible rfl))
  try simp only [Act.put, List.setIfInBounds_toArray, List.set_cons_zero, List.set_cons_succ]
  refine wpAnyH_take (i := 3) (oi := { dst := some 56, op := Op.load 56 (Operand.tmp 55), type := 56, pos := "db.go:97", after := #[{ on := 2, ground := Ground.data }], guard := none }) (v := ?_) rfl (by kernel_rfl) (by kernel_rfl) (by kernel_rfl) (fun _ _ _ h => h) (Or.inl ⟨by rfl, ?_⟩) hHeld ?_
  rotate_left
  · (intro W1 hSw; (try dsimp only at hSw); go_simp; first | done | (with_reducible rfl))
  try simp only [Act.put, List.setIfInBounds_toArray, List.set_cons_zero, List.set_cons_succ]
  refine wpAnyH_take (i := 4) (oi := { dst := some 57, op := Op.move (Operand.tmp 1), type := 3, pos := "db.go:97", after := #[], guard := none }) (v := ?_) rfl (by kernel_rfl) (by kernel_rfl) (by kernel_rfl) (fun _ _ _ h => h) (Or.inl ⟨by rfl, ?_⟩) hHeld ?_
  rotate_left
  · (intro W1 hSw; (try dsimp only at hSw); go_simp; first | done | (with_reducible rfl))
  try simp only [Act.put, List.setIfInBounds_toArray, List.set_cons_zero, List.set_cons_succ]
  refine wpAnyH_take (i := 5) (oi := { dst := some 58, op := Op.fieldAddr 50 (Operand.tmp 5) 4, type := 0, pos := "db.go:97", after := #[], guard := none }) (v := ?_) rfl (by kernel_rfl) (by kernel_rfl) (by kernel_rfl) (fun _ _ _ h => h) (Or.inl ⟨by rfl, ?_⟩) hHeld ?_
  rotate_left
  · (intro W1 hSw; (try dsimp only at hSw); go_simp; first | done | (with_reducible rfl))
  try simp only [Act.put, List.setIfInBounds_toArray, List.set_cons_zero, List.set_cons_succ]
  refine wpAnyH_take (i := 6) (oi := { dst := some 59, op := Op.load 38 (Operand.tmp 58), type := 38, pos := "db.go:97", after := #[{ on := 5, ground := Ground.data }], guard := none }) (v := ?_) rfl (by kernel_rfl) (by kernel_rfl) (by kernel_rfl) (fun _ _ _ h => h) (Or.inl ⟨by rfl, ?_⟩) hHeld ?_
  rotate_left
  · (intro W1 hSw; (try dsimp only at hSw); go_simp; first | done | (with_reducible rfl))
  try simp only [Act.put, List.setIfInBounds_toArray, List.set_cons_zero, List.set_cons_succ]
  refine wpAnyH_ready (rs := [7]) (by kernel_rfl) (by simp) ?_
  refine AllReadyH.cons (o := { dst := some 60, op := Op.call { callee := Callee.value (Operand.func 131), args := #[Operand.tmp 56, Operand.tmp 57, Operand.tmp 59], argTypes := #[56, 3, 38] }, type := 145, pos := "db.go:97", after := #[{ on := 3, ground := Ground.data }, { on := 4, ground := Ground.data }, { on := 6, ground := Ground.data }], guard := none }) rfl (fun K hK => ?_) AllReadyH.nil
  rw [if_pos (by rfl)]
  go_simp
  go_at_call 131
  refine HC.out.mono ?_
  rintro e x1 ⟨rfl, S1, F1, T1⟩
  have HS1 := hid S1
  have T01 := T1.mono (ts' := 41 :: stoT) (by simp +contextual)
  have j1 := KA.out.tfr T1 (by decide)
  have q1 := hid (KQ.out.tfr T1 (by decide))
  have l1 := j1.lt
  have HTW1 := hid (HTA.out.trans T1)
  have HFW1 := hid (HFA.out.trans F1)
  have c1_1 : x1.cell? ⟨w.heap.size + 2, 1, none⟩ = some (.int .i64 0) := j1.cell 1
  have f1_1 := j1.frozen 1
  have c0_1 : x1.cell? ⟨w.heap.size + 2, 0, none⟩ = some (.int .i64 0) := j1.cell 0
  have f0_1 := j1.frozen 0
  have J1 := hid j1
  clear S1 F1 T1 j1
  refine hK.out _ _ (KEEP.out _ T01) (fun hHeld => ?_)
  have HT1 := hid T01
  clear T01
  clear hK K
  try simp only [Act.put, List.setIfInBounds_toArray, List.set_cons_zero, List.set_cons_succ]
  refine wpAnyH_take (i := 8) (oi := { dst := some 52, op := Op.move (Operand.tmp 60), type := 145, pos := "db.go:97", after := #[{ on := 7, ground := Ground.data }], guard := none }) (v := ?_) rfl (by kernel_rfl) (by kernel_rfl) (by kernel_rfl) (fun _ _ _ h => h) (Or.inl ⟨by rfl, ?_⟩) hHeld ?_
  rotate_left
  · (intro W1 hSw; (try dsimp only at hSw); go_simp; first | done | (with_reducible rfl))
  try simp only [Act.put, List.setIfInBounds_toArray, List.set_cons_zero, List.set_cons_succ]
  refine wpAnyH_take (i := 9) (oi := { dst := some 61, op := Op.extract (Operand.tmp 52) 0, type := 3, pos := "db.go:97", after := #[{ on := 8, ground := Ground.data }], guard := none }) (v := ?_) rfl (by kernel_rfl) (by kernel_rfl) (by kernel_rfl) (fun _ _ _ h => h) (Or.inl ⟨by rfl, ?_⟩) hHeld ?_
  rotate_left
  · (intro W1 hSw; (try dsimp only at hSw); go_simp; first | done | (with_reducible rfl))
  try simp only [Act.put, List.setIfInBounds_toArray, List.set_cons_zero, List.set_cons_succ]
  refine wpAnyH_take (i := 10) (oi := { dst := some 62, op := Op.extract (Operand.tmp 52) 1, type := 30, pos := "db.go:97", after := #[{ on := 8, ground := Ground.data }, { on := 12, ground := Ground.gcOnly Departure.lateStores }], guard := none }) (v := ?_) rfl (by kernel_rfl) (by kernel_rfl) (by kernel_rfl) (fun _ _ _ h => h) (Or.inl ⟨by rfl, ?_⟩) hHeld ?_
  rotate_left
  · (intro W1 hSw; (try dsimp only at hSw); go_simp; first | done | (with_reducible rfl))
  try simp only [Act.put, List.setIfInBounds_toArray, List.set_cons_zero, List.set_cons_succ]
  refine wpAnyH_take (i := 11) (oi := { dst := some 63, op := Op.fieldAddr 41 (Operand.tmp 7) 1, type := 0, pos := "db.go:97", after := #[{ on := 0, ground := Ground.phase }, { on := 1, ground := Ground.phase }, { on := 2, ground := Ground.phase }, { on := 3, ground := Ground.phase }, { on := 4, ground := Ground.phase }, { on := 5, ground := Ground.phase }, { on := 6, ground := Ground.phase }, { on := 7, ground := Ground.phase }, { on := 8, ground := Ground.phase }, { on := 9, ground := Ground.phase }, { on := 10, ground := Ground.textOnly Departure.lateStores }], guard := none }) (v := ?_) rfl (by kernel_rfl) (by kernel_rfl) (by kernel_rfl) (fun _ _ _ h => h) (Or.inl ⟨by rfl, ?_⟩) hHeld ?_
  rotate_left
  · (intro W1 hSw; (try dsimp only at hSw); go_simp; first | done | (with_reducible rfl))
  try simp only [Act.put, List.setIfInBounds_toArray, List.set_cons_zero, List.set_cons_succ]
  refine wpAnyH_ready (rs := [12]) (by kernel_rfl) (by simp) ?_
  refine AllReadyH.cons (o := { dst := none, op := Op.store 3 (Operand.tmp 63) (Operand.tmp 61), type := 0, pos := "db.go:97", after := #[{ on := 11, ground := Ground.data }, { on := 9, ground := Ground.data }, { on := 7, ground := Ground.chain }, { on := 0, ground := Ground.phase }, { on := 1, ground := Ground.phase }, { on := 2, ground := Ground.phase }, { on := 3, ground := Ground.phase }, { on := 4, ground := Ground.phase }, { on := 5, ground := Ground.phase }, { on := 6, ground := Ground.phase }, { on := 7, ground := Ground.phase }, { on := 8, ground := Ground.phase }, { on := 9, ground := Ground.phase }, { on := 10, ground := Ground.textOnly Departure.lateStores }], guard := none }) rfl (fun K hK => ?_) AllReadyH.nil
  rw [if_pos (by rfl)]
  go_simp
  have j2 := J1.out.set_ 1 (.int .i64 iv)
  have q2 := q1.out.far (p := ⟨w.heap.size + 2, 1, none⟩) (by simp) (.int .i64 iv)
  have t2 := TFr.set_one J1.out 1 (.int .i64 iv)
  have HTW2 := hid (TFr.fr_new HTW1.out ((Fr.refl [w.heap.size + 2] x1).setCell (p := ⟨w.heap.size + 2, 1, none⟩) (by simp) (.int .i64 iv)) (by omega))
  have HFW2 := hid (FrO.fr_new HFW1.out ((Fr.refl [w.heap.size + 2] x1).setCell (p := ⟨w.heap.size + 2, 1, none⟩) (by simp) (.int .i64 iv)) (by omega))
  have T02 := HT1.out.trans (t2.mono (ts' := 41 :: stoT) (by simp))
  refine hK.out _ _ (KEEP.out _ T02) (fun hHeld => ?_)
  generalize World.setCell x1 ⟨w.heap.size + 2, 1, none⟩ (.int .i64 iv) = x2 at *
  have c0_2 : x2.cell? ⟨w.heap.size + 2, 0, none⟩ = some (.int .i64 0) := j2.cell 0
  have f0_2 := j2.frozen 0
  have l2 := j2.lt
  have J2 := hid j2
  have HT2 := hid T02
  have Q2 := hid q2
  have R2 := hid t2
  clear j2 T02 q2 t2
  clear hK K
  try simp only [Act.put, List.setIfInBounds_toArray, List.set_cons_zero, List.set_cons_succ]
  refine wpAnyH_take (i := 13) (oi := { dst := some 64, op := Op.fieldAddr 41 (Operand.tmp 7) 0, type := 0, pos := "db.go:97", after := #[{ on := 0, ground := Ground.phase }, { on := 1, ground := Ground.phase }, { on := 2, ground := Ground.phase }, { on := 3, ground := Ground.phase }, { on := 4, ground := Ground.phase }, { on := 5, ground := Ground.phase }, { on := 6, ground := Ground.phase }, { on := 7, ground := Ground.phase }, { on := 8, ground := Ground.phase }, { on := 9, ground := Ground.phase }, { on := 10, ground := Ground.phase }, { on := 11, ground := Ground.phase }, { on := 12, ground := Ground.phase }], guard := none }) (v := ?_) rfl (by kernel_rfl) (by kernel_rfl) (by kernel_rfl) (fun _ _ _ h => h) (Or.inl ⟨by rfl, ?_⟩) hHeld ?_
  rotate_left
  · (intro W1 hSw; (try dsimp only at hSw); go_simp; first | done | (with_reducible rfl))
  try simp only [Act.put, List.setIfInBounds_toArray, List.set_cons_zero, List.set_cons_succ]
  refine wpAnyH_ready (rs := [14]) (by kernel_rfl) (by simp) ?_
  refine AllReadyH.cons (o := { dst := none, op := Op.store 30 (Operand.tmp 64) (Operand.tmp 62), type := 0, pos := "db.go:97", after := #[{ on := 13, ground := Ground.data }, { on := 10, ground := Ground.data }, { on := 12, ground := Ground.chain }, { on := 0, ground := Ground.phase }, { on := 1, ground := Ground.phase }, { on := 2, ground := Ground.phase }, { on := 3, ground := Ground.phase }, { on := 4, ground := Ground.phase }, { on := 5, ground := Ground.phase }, { on := 6, ground := Ground.phase }, { on := 7, ground := Ground.phase }, { on := 8, ground := Ground.phase }, { on := 9, ground := Ground.phase }, { on := 10, ground := Ground.phase }, { on := 11, ground := Ground.phase }, { on := 12, ground := Ground.phase }], guard := none }) rfl (fun K hK => ?_) AllReadyH.nil
  rw [if_pos (by rfl)]
  go_simp
  have j3 := J2.out.set_ 0 (.int .i64 er)
  have q3 := Q2.out.far (p := ⟨w.heap.size + 2, 0, none⟩) (by simp) (.int .i64 er)
  have t3 := TFr.set_one J2.out 0 (.int .i64 er)
  have HTW3 := hid (TFr.fr_new HTW2.out ((Fr.refl [w.heap.size + 2] x2).setCell (p := ⟨w.heap.size + 2, 0, none⟩) (by simp) (.int .i64 er)) (by omega))
  have HFW3 := hid (FrO.fr_new HFW2.out ((Fr.refl [w.heap.size + 2] x2).setCell (p := ⟨w.heap.size + 2, 0, none⟩) (by simp) (.int .i64 er)) (by omega))
  have T03 := HT2.out.trans (t3.mono (ts' := 41 :: stoT) (by simp))
  refine hK.out _ _ (KEEP.out _ T03) (fun hHeld => ?_)
  generalize World.setCell x2 ⟨w.heap.size + 2, 0, none⟩ (.int .i64 er) = x3 at *
  have l3 := j3.lt
  have J3 := hid j3
  have HT3 := hid T03
  have Q3 := hid q3
  have R3 := hid t3
  clear j3 T03 q3 t3
  clear hK K
  try simp only [Act.put, List.setIfInBounds_toArray, List.set_cons_zero, List.set_cons_succ]
  refine wpAnyH_done (by kernel_rfl) ?_ _
  have KF : Hid (Blk x3 (w.heap.size + 2) 41 (ansCells (er) (iv))) := J3
  have HSF := hid ((HS1.out.tfr R2.out (by decide)).tfr R3.out (by decide))
  clear hHeld
  go_wp2_with (first
    | (refine wpList_load_blk rfl 41 _ rfl (w.heap.size + 2) 41 (ansCells (er) (iv)) _ KF.out rfl Tryz.underlying41 rfl size_ans ?_)
    | (refine wpList_store_blk rfl 41 _ _ rfl (w.heap.size + 1) 41 ansZ (ansCells (er) (iv)) Q3.out rfl rfl rfl size_ans (ans_all _ _) ?_
       intro w9 K9 F9))
  have t9 := TFr.set_all Q3.out F9
  exact bodyPost_ret (res_agg rfl _ _ (w.heap.size + 1) 41 (ansCells (er) (iv)) _ K9 rfl Tryz.underlying41 rfl size_ans) rfl ⟨rfl, HSF.out.tfr t9 (by decide), FrO.fr_new HFW3.out F9 (by omega), TFr.fr_new HTW3.out F9 (by omega)⟩
-- END BODIES
end
end Go.Proofs.YtdfkdgnhpdgphaaGreatDoor

/-
  db.within: what writes; a commit; a commit of nothing.
-/
namespace Go.Proofs.YtdfkdgnhpdgphaaGreatDoor
open Go.RowKit Go.Proofs.Lig
attribute [local go_sem] run_store_float

section
variable {O : Nat → Prop} {w : World} {B : Nat} {cs : List Value}
set_option maxRecDepth 100000 in
set_option maxHeartbeats 4000000 in
theorem within_writes (Post : World → Prop) (hP : ∀ w1 w2, TFr [87, 41] w1 w2 → Post w1 → Post w2) (h : Blk w B 87 cs) (i : Nat) (hi : i < 4) (t : Int) (ht : cs[2 + i]? = some (.int .i64 t)) (ht0 : ¬ t = 0) (k id : Int) (v : EdgV) (hk4 : 4 ≤ k) (hk8 : k ≤ 8) (er iv : Int)
    (HW : ∀ W, Below w.heap.size w W → Calls Tryz.prog 58 #[pt B, .int .i64 t, opVal k id v] W fun e w' => e = .returned (ansVal er iv) ∧ Post w' ∧ FrO O W w' ∧ TFr stoT W w') (hOB : O B) (cs' : List Value) (hcs : (if er = 6 then cs.set (2 + i) (.int .i64 0) else cs) = cs') :
    Calls Tryz.prog 27 #[pt B, .int .i64 (i : Int), opVal k id v] w fun e w' => e = .returned (ansVal er iv) ∧ Post w' ∧ Blk w' B 87 cs' ∧ FrO O w w' ∧ TFr (87 :: stoT) w w' := by
  have A3 := hid (ans3 w k id v)
  have HX := hid h
  have HCS := hid hcs
  have HPP := hid hP
  have HWW := hid HW
  have HTI := hid ht
  have hk2 : ¬ k = 2 := by omega
  have hk3 : ¬ k = 3 := by omega
  have hiI : (i : Int) < 4 := by omega
  have lt : ((w.alloc (.cells (opCells k id v).toArray 50)).alloc (.cells ansZ.toArray 41)).cell? ⟨B, 2 + i, none⟩ = some (.int .i64 t) := (((h.alloc _).alloc _).cell (2 + i)).trans ht
  clear h hcs hP HW ht hk4
  go_enter Tryz.func27, Tryz.ntmps27
  go_wp2_with (first
    | (refine wpList_store_blk rfl 41 _ _ rfl (w.heap.size + 2) 41 ansZ ansZ A3.out.loc rfl rfl rfl size_ans ansZ_all ?_
       intro w9 k9 f9
       have B9 := hid (A3.out.tfr.trans (f9.below (by simp; omega) (by simp)))
       have K9 := hid k9
       have F9 := hid f9
       have KO9 := hid (A3.out.op.fr f9 (by simp))
       have KQ9 := hid (A3.out.out.fr f9 (by simp))
       have o0 : w9.cell? ⟨w.heap.size, 0, none⟩ = some (.int .i64 k) := KO9.out.cell 0
       clear k9 f9)
    | (refine wpList_load_blk rfl 50 _ rfl w.heap.size 50 (opCells k id v) _ KO9.out rfl Tryz.underlying50 rfl size_op ?_))
  refine (HWW.out w9 B9.out).mono ?_
  rintro e w10 ⟨rfl, P10, F10, T10⟩
  have HP10 := hid P10
  have KQ := hid (KQ9.out.tfr T10 (by decide))
  have KL := hid (K9.out.tfr T10 (by decide))
  have KB := hid ((HX.out.below B9.out HX.out.lt).tfr T10 (by decide))
  have HTW : Hid (TFr (87 :: stoT) w w10) := (TFr.of_below B9.out).trans (T10.mono (by simp +contextual))
  have HNB : Hid (B ≠ w.heap.size + 2 ∧ B ≠ w.heap.size + 1) := ⟨Nat.ne_of_lt (Nat.lt_of_lt_of_le HX.out.lt (by omega)), Nat.ne_of_lt (Nat.lt_of_lt_of_le HX.out.lt (by omega))⟩
  have HNQ : Hid (w.heap.size + 1 ≠ w.heap.size + 2) := by show _ ≠ _; omega
  have HFW := hid ((FrO.of_below (O := O) B9.out).trans F10)
  clear P10 F10 T10 o0 lt
  by_cases h6 : er = 6
  · have hcs6 : Hid (cs.set (2 + i) (.int .i64 0) = cs') := by
      show _ = _
      rw [← HCS.out, if_pos h6]
    subst h6
    go_wp2_with (first
      | (refine wpList_store_blk rfl 41 _ _ rfl (w.heap.size + 2) 41 ansZ (ansCells 6 iv) KL.out rfl rfl rfl size_ans (ans_all _ _) ?_
         intro w11 k11 f11
         have K11 := hid k11
         have F11 := hid f11
         have KB11 := hid (KB.out.fr f11 (by simpa using HNB.out.1))
         have b11 : w11.cell? ⟨B, 2 + i, none⟩ = some (.int .i64 t) := (KB11.out.cell (2 + i)).trans HTI.out
         have bf11 := KB11.out.frozen (2 + i)
         have bl11 := KB11.out.lt
         have o6 : w11.cell? ⟨w.heap.size + 2, 0, none⟩ = some (.int .i64 6) := K11.out.cell 0
         have K12 := hid (K11.out.far (p := ⟨B, 2 + i, none⟩) (by simpa using HNB.out.1.symm) (.int .i64 0))
         clear k11 f11)
      | (refine wpList_load_blk rfl 41 _ rfl (w.heap.size + 2) 41 (ansCells 6 iv) _ K12.out rfl Tryz.underlying41 rfl size_ans ?_
         have KQ12 := hid ((KQ.out.fr F11.out (by simp)).far (p := ⟨B, 2 + i, none⟩) (by simpa using HNB.out.2.symm) (.int .i64 0))
         have HT12 := hid ((TFr.fr_new HTW.out F11.out (by omega)).trans ((TFr.set_one KB11.out (2 + i) (.int .i64 0)).mono (ts' := 87 :: stoT) (by simp)))
         have KB12 := hid (KB11.out.set_ (2 + i) (.int .i64 0)))
      | (refine wpList_store_blk rfl 41 _ _ rfl (w.heap.size + 1) 41 ansZ (ansCells 6 iv) KQ12.out rfl rfl rfl size_ans (ans_all _ _) ?_
         intro w13 k13 f13))
    exact bodyPost_ret (res_agg rfl _ _ (w.heap.size + 1) 41 (ansCells 6 iv) _ k13 rfl Tryz.underlying41 rfl size_ans) rfl ⟨rfl, HPP.out _ _ ((((TFr.set_all KL.out F11.out).mono (by simp)).trans ((TFr.set_one KB11.out (2 + i) (.int .i64 0)).mono (by simp))).trans ((TFr.set_all KQ12.out f13).mono (by simp))) HP10.out, hcs6.out ▸ KB12.out.fr f13 (by simpa using HNB.out.2), FrO.fr_new (FrO.setCell (FrO.fr_new HFW.out F11.out (by omega)) (p := ⟨B, 2 + i, none⟩) hOB (.int .i64 0)) f13 (by omega), TFr.fr_new HT12.out f13 (by omega)⟩
  · have hcs6 : Hid (cs = cs') := by
      show _ = _
      rw [← HCS.out, if_neg h6]
    go_wp2_with (first
      | (refine wpList_store_blk rfl 41 _ _ rfl (w.heap.size + 2) 41 ansZ (ansCells er iv) KL.out rfl rfl rfl size_ans (ans_all _ _) ?_
         intro w11 k11 f11
         have K11 := hid k11
         have F11 := hid f11
         have KB11 := hid (KB.out.fr f11 (by simpa using HNB.out.1))
         have o6 : w11.cell? ⟨w.heap.size + 2, 0, none⟩ = some (.int .i64 er) := K11.out.cell 0
         clear k11 f11)
      | (refine wpList_load_blk rfl 41 _ rfl (w.heap.size + 2) 41 (ansCells er iv) _ K11.out rfl Tryz.underlying41 rfl size_ans ?_)
      | (refine wpList_store_blk rfl 41 _ _ rfl (w.heap.size + 1) 41 ansZ (ansCells er iv) (KQ.out.fr F11.out (by simp)) rfl rfl rfl size_ans (ans_all _ _) ?_
         intro w13 k13 f13))
    exact bodyPost_ret (res_agg rfl _ _ (w.heap.size + 1) 41 (ansCells er iv) _ k13 rfl Tryz.underlying41 rfl size_ans) rfl ⟨rfl, HPP.out _ _ (((TFr.set_all KL.out F11.out).mono (by simp)).trans ((TFr.set_all (KQ.out.fr F11.out (by simp)) f13).mono (by simp))) HP10.out, hcs6.out ▸ KB11.out.fr f13 (by simpa using HNB.out.2), FrO.fr_new (FrO.fr_new HFW.out F11.out (by omega)) f13 (by omega), TFr.fr_new (TFr.fr_new HTW.out F11.out (by omega)) f13 (by omega)⟩
abbrev comT : List TypeId := 87 :: 152 :: (drmT ++ stoT)
set_option maxRecDepth 100000 in
set_option maxHeartbeats 4000000 in
theorem within_commit (Post : World → Prop) (hP : ∀ w1 w2, TFr [87, 41] w1 w2 → Post w1 → Post w2) (h : Blk w B 87 cs) (i : Nat) (hi : i < 4) (t : Int) (ht : cs[2 + i]? = some (.int .i64 t)) (ht0 : ¬ t = 0) (cs1 : List Value) (ht1 : cs1[2 + i]? = some (.int .i64 t))
    (HW : ∀ W, Below w.heap.size w W → Calls Tryz.prog 56 #[pt B, .int .i64 t] W fun e w' => e = .returned (.int .i64 0) ∧ Post w' ∧ Blk w' B 87 cs1 ∧ FrO O W w' ∧ TFr comT W w') (hOB : O B) :
    Calls Tryz.prog 27 #[pt B, .int .i64 (i : Int), opVal 2 0 z0] w fun e w' => e = .returned (ansVal 0 0) ∧ Post w' ∧ Blk w' B 87 (cs1.set (2 + i) (.int .i64 0)) ∧ FrO O w w' ∧ TFr comT w w' := by
  have A3 := hid (ans3 w 2 0 z0)
  have HX := hid h
  have HPP := hid hP
  have HWW := hid HW
  have HTI := hid ht1
  have hiI : (i : Int) < 4 := by omega
  have lt : ((w.alloc (.cells (opCells 2 0 z0).toArray 50)).alloc (.cells ansZ.toArray 41)).cell? ⟨B, 2 + i, none⟩ = some (.int .i64 t) := (((h.alloc _).alloc _).cell (2 + i)).trans ht
  clear h hP HW ht ht1
  go_enter Tryz.func27, Tryz.ntmps27
  go_wp2_with (first
    | (refine wpList_store_blk rfl 41 _ _ rfl (w.heap.size + 2) 41 ansZ ansZ A3.out.loc rfl rfl rfl size_ans ansZ_all ?_
       intro w9 k9 f9
       have B9 := hid (A3.out.tfr.trans (f9.below (by simp; omega) (by simp)))
       have K9 := hid k9
       have F9 := hid f9
       have KO9 := hid (A3.out.op.fr f9 (by simp))
       have KQ9 := hid (A3.out.out.fr f9 (by simp))
       have o0 : w9.cell? ⟨w.heap.size, 0, none⟩ = some (.int .i64 2) := KO9.out.cell 0
       clear k9 f9))
  refine (HWW.out w9 B9.out).mono ?_
  rintro e w10 ⟨rfl, P10, KB10, F10, T10⟩
  have HP10 := hid P10
  have KQ := hid (KQ9.out.tfr T10 (by decide))
  have KL := hid (K9.out.tfr T10 (by decide))
  have KB := hid KB10
  have HTW : Hid (TFr comT w w10) := (TFr.of_below B9.out).trans T10
  have HNB : Hid (B ≠ w.heap.size + 2 ∧ B ≠ w.heap.size + 1) := ⟨Nat.ne_of_lt (Nat.lt_of_lt_of_le HX.out.lt (by omega)), Nat.ne_of_lt (Nat.lt_of_lt_of_le HX.out.lt (by omega))⟩
  have HNQ : Hid (w.heap.size + 1 ≠ w.heap.size + 2) := by show _ ≠ _; omega
  have a0 : w10.cell? ⟨w.heap.size + 2, 0, none⟩ = some (.int .i64 0) := KL.out.cell 0
  have af := KL.out.frozen 0
  have al := KL.out.lt
  have KB11 := hid (KB.out.far (p := ⟨w.heap.size + 2, 0, none⟩) (by simpa using HNB.out.1) (.int .i64 0))
  have b11 : (w10.setCell ⟨w.heap.size + 2, 0, none⟩ (.int .i64 0)).cell? ⟨B, 2 + i, none⟩ = some (.int .i64 t) := (KB11.out.cell (2 + i)).trans HTI.out
  have bf11 := KB11.out.frozen (2 + i)
  have bl11 := KB11.out.lt
  have K12 : Hid (Blk ((w10.setCell ⟨w.heap.size + 2, 0, none⟩ (.int .i64 0)).setCell ⟨B, 2 + i, none⟩ (.int .i64 0)) (w.heap.size + 2) 41 (ansCells 0 0)) := (KL.out.set_ 0 (.int .i64 0)).far (p := ⟨B, 2 + i, none⟩) (by simpa using HNB.out.1.symm) (.int .i64 0)
  have KQ12 := hid ((KQ.out.far (p := ⟨w.heap.size + 2, 0, none⟩) (by simp) (.int .i64 0)).far (p := ⟨B, 2 + i, none⟩) (by simpa using HNB.out.2.symm) (.int .i64 0))
  have KB12 := hid (KB11.out.set_ (2 + i) (.int .i64 0))
  have F11 := hid ((Fr.refl [w.heap.size + 2] w10).setCell (p := ⟨w.heap.size + 2, 0, none⟩) (by simp) (.int .i64 0))
  have HT12 := hid ((TFr.fr_new HTW.out F11.out (by omega)).trans ((TFr.set_one KB11.out (2 + i) (.int .i64 0)).mono (ts' := comT) (by simp)))
  have HPT := hid (((TFr.set_one KL.out 0 (.int .i64 0)).mono (ts' := [87, 41]) (by simp)).trans ((TFr.set_one KB11.out (2 + i) (.int .i64 0)).mono (by simp)))
  have HFW := hid ((FrO.of_below (O := O) B9.out).trans F10)
  clear P10 F10 T10 KB10 o0 lt
  go_wp2_with (first
    | (refine wpList_load_blk rfl 41 _ rfl (w.heap.size + 2) 41 (ansCells 0 0) _ K12.out rfl Tryz.underlying41 rfl size_ans ?_)
    | (refine wpList_store_blk rfl 41 _ _ rfl (w.heap.size + 1) 41 ansZ (ansCells 0 0) KQ12.out rfl rfl rfl size_ans (ans_all _ _) ?_
       intro w13 k13 f13))
  exact bodyPost_ret (res_agg rfl _ _ (w.heap.size + 1) 41 (ansCells 0 0) _ k13 rfl Tryz.underlying41 rfl size_ans) rfl ⟨rfl, HPP.out _ _ (HPT.out.trans ((TFr.set_all KQ12.out f13).mono (by simp))) HP10.out, KB12.out.fr f13 (by simpa using HNB.out.2), FrO.fr_new (FrO.setCell (FrO.fr_new HFW.out F11.out (by omega)) (p := ⟨B, 2 + i, none⟩) hOB (.int .i64 0)) f13 (by omega), TFr.fr_new HT12.out f13 (by omega)⟩
set_option maxRecDepth 100000 in
set_option maxHeartbeats 4000000 in
theorem within_none (h : Blk w B 87 cs) (i : Nat) (hi : i < 4) (ht : cs[2 + i]? = some (.int .i64 0)) (k id : Int) (v : EdgV) :
    Calls Tryz.prog 27 #[pt B, .int .i64 (i : Int), opVal k id v] w fun e w' => e = .returned (ansVal 5 0) ∧ Below w.heap.size w w' := by
  have A3 := hid (ans3 w k id v)
  have HX := hid h
  have hiI : (i : Int) < 4 := by omega
  have lt : ((w.alloc (.cells (opCells k id v).toArray 50)).alloc (.cells ansZ.toArray 41)).cell? ⟨B, 2 + i, none⟩ = some (.int .i64 0) := (((h.alloc _).alloc _).cell (2 + i)).trans ht
  clear h ht
  go_enter Tryz.func27, Tryz.ntmps27
  go_wp2_with (first
    | (refine wpList_store_blk rfl 41 _ _ rfl (w.heap.size + 2) 41 ansZ ansZ A3.out.loc rfl rfl rfl size_ans ansZ_all ?_
       intro w9 k9 f9
       have B9 := hid (A3.out.tfr.trans (f9.below (by simp; omega) (by simp)))
       have KQ9 := hid (A3.out.out.fr f9 (by simp))
       clear k9 f9)
    | (refine wpList_store_blk rfl 41 _ _ rfl (w.heap.size + 1) 41 ansZ (ansCells 5 0) KQ9.out rfl rfl rfl size_ans (ans_all _ _) ?_
       intro w13 k13 f13))
  exact bodyPost_ret (res_agg rfl _ _ (w.heap.size + 1) 41 (ansCells 5 0) _ k13 rfl Tryz.underlying41 rfl size_ans) rfl ⟨rfl, B9.out.trans (f13.below (Nat.le_trans (by simp) B9.out.size) (by simp))⟩
end
end Go.Proofs.YtdfkdgnhpdgphaaGreatDoor

/-
  db.Ask: what is done within a transaction; a begin.
-/
namespace Go.Proofs.YtdfkdgnhpdgphaaGreatDoor
open Go.RowKit Go.Proofs.Lig
attribute [local go_sem] run_store_float

/-- The memory that Ask begins with. -/
structure Ans2 (w w' : World) (k id : Int) (v : EdgV) : Prop where
  op : Blk w' w.heap.size 50 (opCells k id v)
  out : Blk w' (w.heap.size + 1) 41 ansZ
  tfr : Below w.heap.size w w'
abbrev w2of (w : World) (k id : Int) (v : EdgV) : World := (w.alloc (.cells (opCells k id v).toArray 50)).alloc (.cells ansZ.toArray 41)
set_option maxRecDepth 100000 in
theorem ans2 (w : World) (k id : Int) (v : EdgV) : Ans2 w (w2of w k id v) k id v := by
  have b1 := below_alloc w (.cells (opCells k id v).toArray 50)
  have k1 := Blk.new w 50 (opCells k id v)
  have k2 := Blk.new (w.alloc (.cells (opCells k id v).toArray 50)) 41 ansZ
  simp only [World.size_alloc] at k2
  exact ⟨k1.alloc _, k2, b1.alloc (by simp) _⟩
section
variable {O : Nat → Prop} {w : World} {B : Nat} {L : List TypeId}
set_option maxRecDepth 100000 in
set_option maxHeartbeats 4000000 in
theorem ask_within (Post : World → Prop) (hP : ∀ w1 w2, TFr [41] w1 w2 → Post w1 → Post w2) (hL : 41 ∉ L) (i : Nat) (hi : i < 3) (k id : Int) (v : EdgV) (hk : k = 2 ∨ k = 4 ∨ k = 6 ∨ k = 7) (er iv : Int)
    (HW : ∀ W, Below w.heap.size w W → Calls Tryz.prog 27 #[pt B, .int .i64 (i : Int), opVal k id v] W fun e w' => e = .returned (ansVal er iv) ∧ Post w' ∧ FrO O W w' ∧ TFr L W w') :
    Calls Tryz.prog 9 #[pt B, .int .i64 (i : Int), opVal k id v] w fun e w' => e = .returned (ansVal er iv) ∧ Post w' ∧ FrO O w w' ∧ TFr L w w' := by
  have A2 := hid (ans2 w k id v)
  have HPP := hid hP
  have HLL := hid hL
  have HWW := hid (HW _ A2.out.tfr)
  have o0 : (w2of w k id v).cell? ⟨w.heap.size, 0, none⟩ = some (.int .i64 k) := A2.out.op.cell 0
  clear hP HW hL
  rcases (show i = 0 ∨ i = 1 ∨ i = 2 by omega) with rfl | rfl | rfl
  all_goals
    rcases hk with rfl | rfl | rfl | rfl
    all_goals
      clear hi
      go_enter Tryz.func9, Tryz.ntmps9
      go_wp2_with (first
        | (refine wpList_load_blk rfl 50 _ rfl w.heap.size 50 (opCells _ id v) _ A2.out.op rfl Tryz.underlying50 rfl size_op ?_))
      refine HWW.out.mono ?_
      rintro e w10 ⟨rfl, P10, F10, T10⟩
      have HP10 := hid P10
      have HT10 := hid T10
      have KQ := hid (A2.out.out.tfr T10 HLL.out)
      have HF10 := hid F10
      clear P10 F10 T10 o0
      go_wp2_with (first
        | (refine wpList_store_blk rfl 41 _ _ rfl (w.heap.size + 1) 41 ansZ (ansCells er iv) KQ.out rfl rfl rfl size_ans (ans_all _ _) ?_
           intro w11 k11 f11))
      exact bodyPost_ret (res_agg rfl _ _ (w.heap.size + 1) 41 (ansCells er iv) _ k11 rfl Tryz.underlying41 rfl size_ans) rfl ⟨rfl, HPP.out _ _ (TFr.set_all KQ.out f11) HP10.out, FrO.fr_new ((FrO.of_below A2.out.tfr).trans HF10.out) f11 (by omega), TFr.fr_new ((TFr.of_below A2.out.tfr).trans HT10.out) f11 (by omega)⟩
set_option maxRecDepth 100000 in
set_option maxHeartbeats 4000000 in
theorem ask_begin (Post : World → Prop) (hP : ∀ w1 w2, TFr [41] w1 w2 → Post w1 → Post w2) (hL : 41 ∉ L) (i : Nat) (hi : i < 3)
    (HW : ∀ W, Below w.heap.size w W → Calls Tryz.prog 26 #[pt B, .int .i64 (i : Int)] W fun e w' => e = .returned (ansVal 0 0) ∧ Post w' ∧ FrO O W w' ∧ TFr L W w') :
    Calls Tryz.prog 9 #[pt B, .int .i64 (i : Int), opVal 1 0 z0] w fun e w' => e = .returned (ansVal 0 0) ∧ Post w' ∧ FrO O w w' ∧ TFr L w w' := by
  have A2 := hid (ans2 w 1 0 z0)
  have HPP := hid hP
  have HLL := hid hL
  have HWW := hid (HW _ A2.out.tfr)
  have o0 : (w2of w 1 0 z0).cell? ⟨w.heap.size, 0, none⟩ = some (.int .i64 1) := A2.out.op.cell 0
  clear hP HW hL
  rcases (show i = 0 ∨ i = 1 ∨ i = 2 by omega) with rfl | rfl | rfl
  all_goals
    clear hi
    go_enter Tryz.func9, Tryz.ntmps9
    go_wp2_with fail
    refine HWW.out.mono ?_
    rintro e w10 ⟨rfl, P10, F10, T10⟩
    have HP10 := hid P10
    have HT10 := hid T10
    have KQ := hid (A2.out.out.tfr T10 HLL.out)
    have HF10 := hid F10
    clear P10 F10 T10 o0
    go_wp2_with (first
      | (refine wpList_store_blk rfl 41 _ _ rfl (w.heap.size + 1) 41 ansZ (ansCells 0 0) KQ.out rfl rfl rfl size_ans (ans_all _ _) ?_
         intro w11 k11 f11))
    exact bodyPost_ret (res_agg rfl _ _ (w.heap.size + 1) 41 (ansCells 0 0) _ k11 rfl Tryz.underlying41 rfl size_ans) rfl ⟨rfl, HPP.out _ _ (TFr.set_all KQ.out f11) HP10.out, FrO.fr_new ((FrO.of_below A2.out.tfr).trans HF10.out) f11 (by omega), TFr.fr_new ((TFr.of_below A2.out.tfr).trans HT10.out) f11 (by omega)⟩
end
end Go.Proofs.YtdfkdgnhpdgphaaGreatDoor

/-
  Asks of a database as a whole.
-/
namespace Go.Proofs.YtdfkdgnhpdgphaaGreatDoor
open Go.RowKit Go.Proofs.Lig

abbrev dbT : List TypeId := 87 :: 152 :: 5 :: (drmT ++ stoT)
/-- What the database keeps beside its own block and its store. -/
def Rest (w : World) (N D G M n L k m : Nat) : Prop :=
  (∃ good now wait j ws, j ≤ 100 ∧ Drm w N D G M n good now wait j ws) ∧
  ∃ (bank len base : Nat) (A : Option Addr) (cap : Nat) (xs : List Int), bank ≤ 1 ∧ Blk w L 152 (logCells D (k : Int) (bank : Int) (len : Int) (.slice A xs.length cap) (k : Int)) ∧ BRow w base A cap xs ∧ xs.length ≤ m
set_option maxRecDepth 100000 in
theorem Rest.tfr {w w' : World} {N D G M n L k m : Nat} {ts : List TypeId} (h : Rest w N D G M n L k m) (hf : TFr ts w w') (hd : ∀ t ∈ 152 :: 5 :: drmT, t ∉ ts) : Rest w' N D G M n L k m := by
  obtain ⟨⟨good, now, wait, j, ws, hj, hD⟩, bank, len, base, A, cap, xs, hb, hL, hR, hx⟩ := h
  exact ⟨⟨good, now, wait, j, ws, hj, hD.tfr hf (fun t ht => hd t (List.mem_cons_of_mem _ (List.mem_cons_of_mem _ ht)))⟩, bank, len, base, A, cap, xs, hb, hL.tfr hf (hd _ (by simp)), ⟨own_tfr hR.own hf (hd _ (by simp)), hR.bytes⟩, hx⟩
/-- A database, of whose parts all lie from N on. -/
structure DbQ (w : World) (N D G M n B s L : Nat) (cs : List Value) (d : StoD) (k m : Nat) : Prop where
  db : Blk w B 87 cs
  sto : Sto (N ≤ ·) w s d
  rest : Rest w N D G M n L k m
  h0 : cs[0]? = some (pt s)
  h1 : cs[1]? = some (pt L)
  nB : N ≤ B
  nL : N ≤ L
set_option maxRecDepth 100000 in
theorem com_mono : ∀ t ∈ 87 :: stoT, t ∈ comT := by decide
section
variable {w w' : World} {N D G M n B s L : Nat} {cs : List Value} {d : StoD} {k m : Nat}
set_option maxRecDepth 100000 in
theorem DbQ.nw (h : DbQ w N D G M n B s L cs d k m) : N ≤ w.heap.size := Nat.le_of_lt (Nat.lt_of_le_of_lt h.nB h.db.lt)
theorem DbQ.tfr {ts : List TypeId} (h : DbQ w N D G M n B s L cs d k m) (hf : TFr ts w w') (hd : ∀ t ∈ dbT, t ∉ ts) : DbQ w' N D G M n B s L cs d k m :=
  ⟨h.db.tfr hf (hd _ (by simp)), h.sto.tfr hf (fun t ht => hd t (List.mem_cons_of_mem _ (List.mem_cons_of_mem _ (List.mem_cons_of_mem _ (List.mem_append_right _ ht))))), h.rest.tfr hf (fun t ht => hd t (List.mem_cons_of_mem _ (by
    rcases List.mem_cons.1 ht with rfl | ht
    · exact List.mem_cons_self
    · refine List.mem_cons_of_mem _ ?_
      rcases List.mem_cons.1 ht with rfl | ht
      · exact List.mem_cons_self
      · exact List.mem_cons_of_mem _ (List.mem_append_left _ ht)))), h.h0, h.h1, h.nB, h.nL⟩
set_option maxRecDepth 100000 in
theorem DbQ.below (h : DbQ w N D G M n B s L cs d k m) (hb : Below w.heap.size w w') : DbQ w' N D G M n B s L cs d k m := h.tfr (ts := []) (.of_below hb) (by simp)
theorem ask_begin_q (h : DbQ w N D G M n B s L cs d k m) (i : Nat) (hi : i < 3) (hti : cs[2 + i]? = some (.int .i64 0)) (hf : d.c.count < 4) (hn : d.c.l.length ≤ 1000000) (v : Int) (hv : (d.c.l.length : Int) + 1 = v) (cs' : List Value) (hcs : cs.set (2 + i) (.int .i64 v) = cs') (hc0 : cs'[0]? = some (pt s)) (hc1 : cs'[1]? = some (pt L)) :
    Calls Tryz.prog 9 #[pt B, .int .i64 (i : Int), opVal 1 0 z0] w fun e w' => e = .returned (ansVal 0 0) ∧ DbQ w' N D G M n B s L cs' { d with c := d.c.began } k m ∧ Below N w w' ∧ TFr comT w w' := by
  refine (ask_begin (O := (N ≤ ·)) (L := 87 :: stoT) (fun W => DbQ W N D G M n B s L cs' { d with c := d.c.began } k m) (fun w1 w2 ht hq => hq.tfr ht (by decide)) (by decide) i hi (fun W hW => ?_)).mono ?_
  · have hq := h.below hW
    obtain ⟨p, hS⟩ := hq.sto
    refine (db_begin (N ≤ ·) W B s i cs p d hq.db (by omega) hq.h0 hti hq.nB hS (NewO.ofLe hq.nw) hf hn v hv).mono ?_
    rintro e w' ⟨rfl, S1, K1, F1, T1⟩
    subst hcs
    exact ⟨rfl, ⟨K1, ⟨p, S1⟩, hq.rest.tfr T1 (by decide), hc0, hc1, hq.nB, hq.nL⟩, F1, T1⟩
  · rintro e w' ⟨rfl, Q1, F1, T1⟩
    exact ⟨rfl, Q1, F1.below h.nw, T1.mono com_mono⟩
set_option maxRecDepth 100000 in
theorem ask_write_q (h : DbQ w N D G M n B s L cs d k m) (i : Nat) (hi : i < 3) (t : Int) (ht : cs[2 + i]? = some (.int .i64 t)) (ht0 : ¬ t = 0) (kk id : Int) (v : EdgV) (hk : kk = 4 ∨ kk = 6 ∨ kk = 7) (er iv : Int) (dd : StoD)
    (HW : ∀ W p, StoA (N ≤ ·) W s p d → Blk W B 87 cs → NewO (N ≤ ·) W → Calls Tryz.prog 58 #[pt B, .int .i64 t, opVal kk id v] W fun e w' => e = .returned (ansVal er iv) ∧ Sto (N ≤ ·) w' s dd ∧ FrO (N ≤ ·) W w' ∧ TFr stoT W w')
    (cs' : List Value) (hcs : (if er = 6 then cs.set (2 + i) (.int .i64 0) else cs) = cs') (hc0 : cs'[0]? = some (pt s)) (hc1 : cs'[1]? = some (pt L)) :
    Calls Tryz.prog 9 #[pt B, .int .i64 (i : Int), opVal kk id v] w fun e w' => e = .returned (ansVal er iv) ∧ DbQ w' N D G M n B s L cs' dd k m ∧ Below N w w' ∧ TFr comT w w' := by
  refine (ask_within (O := (N ≤ ·)) (L := 87 :: stoT) (fun W => DbQ W N D G M n B s L cs' dd k m) (fun w1 w2 ht hq => hq.tfr ht (by decide)) (by decide) i hi kk id v (Or.inr hk) er iv (fun W hW => ?_)).mono ?_
  · have hq := h.below hW
    refine (within_writes (O := (N ≤ ·)) (fun W => Sto (N ≤ ·) W s dd) (fun w1 w2 ht hs => hs.tfr ht (by decide)) hq.db i (by omega) t ht ht0 kk id v (by rcases hk with rfl | rfl | rfl <;> omega) (by rcases hk with rfl | rfl | rfl <;> omega) er iv (fun W2 hW2 => ?_) hq.nB cs' hcs).mono ?_
    · have hq2 := hq.below hW2
      obtain ⟨p, hS⟩ := hq2.sto
      exact HW W2 p hS hq2.db (NewO.ofLe hq2.nw)
    · rintro e w' ⟨rfl, S1, K1, F1, T1⟩
      exact ⟨rfl, ⟨K1, S1, hq.rest.tfr T1 (by decide), hc0, hc1, hq.nB, hq.nL⟩, F1, T1⟩
  · rintro e w' ⟨rfl, Q1, F1, T1⟩
    exact ⟨rfl, Q1, F1.below h.nw, T1.mono com_mono⟩
set_option maxRecDepth 100000 in
theorem ask_commit_q (h : DbQ w N D G M n B s L cs d k m) (i : Nat) (hi : i < 3) (t : Int) (ht : cs[2 + i]? = some (.int .i64 t)) (ht0 : ¬ t = 0) (c : Int) (h6 : cs[6]? = some (.int .i64 c)) (hc0 : 0 ≤ c) (hc1 : c ≤ 1000) (hlv : d.c.live t = true) (hns : d.ns.length ≤ 24) (hes : d.es.length ≤ 32) (hcn : d.c.n ≤ 1000000)
    (hg : ∀ x ∈ pendWrs d t, GoodW d.ns.length d.es.length x) (hd : (wkeys (pendWrs d t)).Nodup) (hl : (pendWrs d t).length ≤ 39) (hne : pendWrs d t ≠ []) (hn4 : 4 ≤ n) (hn : n ≤ 200) (hm : m + 30 + 100 * (pendWrs d t).length + 10 ≤ 64 * ((n - 2) / 2)) (hk : k ≤ 999)
    (cs' : List Value) (hcs : (cs.set 6 (.int .i64 (c + 1))).set (2 + i) (.int .i64 0) = cs') (hx : (cs.set 6 (.int .i64 (c + 1)))[2 + i]? = some (.int .i64 t)) (hc0' : cs'[0]? = some (pt s)) (hc1' : cs'[1]? = some (pt L)) (m' : Nat) (hm' : m + 40 + 100 * (pendWrs d t).length = m') :
    Calls Tryz.prog 9 #[pt B, .int .i64 (i : Int), opVal 2 0 z0] w fun e w' => e = .returned (ansVal 0 0) ∧ DbQ w' N D G M n B s L cs' { d with c := d.c.committed t } (k + 1) m' ∧ Below N w w' ∧ TFr comT w w' := by
  refine (ask_within (O := (N ≤ ·)) (L := comT) (fun W => DbQ W N D G M n B s L cs' { d with c := d.c.committed t } (k + 1) m') (fun w1 w2 ht hq => hq.tfr ht (by decide)) (by decide) i hi 2 0 z0 (.inl rfl) 0 0 (fun W hW => ?_)).mono ?_
  · have hq := h.below hW
    refine (within_commit (O := (N ≤ ·)) (fun W => Sto (N ≤ ·) W s { d with c := d.c.committed t } ∧ Rest W N D G M n L (k + 1) m') (fun w1 w2 ht hs => ⟨hs.1.tfr ht (by decide), hs.2.tfr ht (by decide)⟩) hq.db i (by omega) t ht ht0 (cs.set 6 (.int .i64 (c + 1))) hx (fun W2 hW2 => ?_) hq.nB).mono ?_
    · have hq2 := hq.below hW2
      obtain ⟨p, hS⟩ := hq2.sto
      refine (db_commit (N ≤ ·) W2 N D G M n B s L cs p d k m ⟨hq2.db, hS, hq2.rest.1, hq2.rest.2⟩ hq2.h0 hq2.h1 c h6 hc0 hc1 (NewO.ofLe hq2.nw) (fun k hk => hk) hq2.nB t hlv hns hes hcn hg hd hl hne hn4 hn hm hk hq2.nw hq2.nL).mono ?_
      rintro e w' ⟨rfl, S1, F1, T1⟩
      subst hm'
      exact ⟨rfl, ⟨⟨p, S1.sto⟩, S1.drm, S1.log⟩, S1.db, F1, T1⟩
    · rintro e w' ⟨rfl, ⟨S1, R1⟩, K1, F1, T1⟩
      subst hcs
      exact ⟨rfl, ⟨K1, S1, R1, hc0', hc1', hq.nB, hq.nL⟩, F1, T1⟩
  · rintro e w' ⟨rfl, Q1, F1, T1⟩
    exact ⟨rfl, Q1, F1.below h.nw, T1.mono (fun _ h => h)⟩
set_option maxRecDepth 100000 in
theorem ask_none_q (h : DbQ w N D G M n B s L cs d k m) (i : Nat) (hi : i < 3) (ht : cs[2 + i]? = some (.int .i64 0)) :
    Calls Tryz.prog 9 #[pt B, .int .i64 (i : Int), opVal 2 0 z0] w fun e w' => e = .returned (ansVal 5 0) ∧ DbQ w' N D G M n B s L cs d k m ∧ Below N w w' ∧ TFr comT w w' := by
  refine (ask_within (O := (N ≤ ·)) (L := []) (fun W => DbQ W N D G M n B s L cs d k m) (fun w1 w2 ht hq => hq.tfr ht (by decide)) (by decide) i hi 2 0 z0 (.inl rfl) 5 0 (fun W hW => ?_)).mono ?_
  · have hq := h.below hW
    refine (within_none hq.db i (by omega) ht 2 0 z0).mono ?_
    rintro e w' ⟨rfl, b⟩
    exact ⟨rfl, hq.below b, FrO.of_below b, TFr.of_below b⟩
  · rintro e w' ⟨rfl, Q1, F1, T1⟩
    exact ⟨rfl, Q1, F1.below h.nw, T1.mono (by simp)⟩
end
end Go.Proofs.YtdfkdgnhpdgphaaGreatDoor
