/-
  A cell of ints: the spare version.
-/
import Derived.Test.YtdgojfjaooindaaCelF
namespace Go.Proofs.Ytdgojfjaooindaa
open Go.RowKit Go.Proofs.Lig

theorem app1 (a b : Value) : #[a] ++ #[b] = #[a, b] := by simp
theorem app2 (a b c : Value) : #[a] ++ #[b, c] = #[a, b, c] := by simp

set_option maxHeartbeats 1000000 in
set_option maxRecDepth 100000 in
theorem spare2_S (w : World) (T2 T3 T5 X : Nat) (g cap n i : Nat) (l : List (Ver Int)) (B : Nat) (S : List Nat) (c : Clk) (y : Ver Int) (hn : n = l.length) (h : CelA w X (some ⟨g, 0, none⟩) cap l) (hc : ClkS w B S c) (hg : c.Good)
    (h2 : w.cell? ⟨T2, 0, none⟩ = some (.pointer (some ⟨X, 0, none⟩))) (h5 : w.cell? ⟨T5, 0, none⟩ = some (.func (.func 78) #[] #[.pointer (some ⟨T3, 0, none⟩)])) (h3 : w.cell? ⟨T3, 0, none⟩ = some (.pointer (some ⟨B, 0, none⟩)))
    (l2 : T2 < w.heap.size) (l5 : T5 < w.heap.size) (l3 : T3 < w.heap.size) (hi : place (fun z => z.who == y.who) l = (i : Int)) (hin : i < n) (a s : Bool) (ha : ((l.drop (i + 1)).any fun z => c.settled z.who) = a) (hs : c.settled y.who = s) :
    Calls Try.prog 80 #[encV y, .pointer (some ⟨T2, 0, none⟩), .pointer (some ⟨T5, 0, none⟩)] w fun e w' => e = .returned (.bool (a || (decide (i = 0) && (y.gone && s)))) ∧ Below w.heap.size w w' := by
  obtain ⟨hcl, hcm⟩ := h.capl
  have hcmI : (cap : Int) ≤ 9223372036854775807 := by unfold maxLen at hcm; omega
  clear hcm
  have hx := h.blk.cell 0
  have hXl := h.blk.lt
  have hgl : g < w.heap.size := own_lt h.own rfl
  simp only [List.getElem?_cons_zero] at hx
  rw [← hn] at hx hcl
  have hB : Below w.heap.size w (w.alloc (.cells #[.int .i64 y.who, .int .i64 y.v, .bool y.gone] 95)) := (Below.refl _ w).alloc (Nat.le_refl _) _
  have bY := Blk.new w 95 [.int .i64 y.who, .int .i64 y.v, .bool y.gone]
  have y0 := bY.cell 0
  have y1 := bY.cell 1
  have y2 := bY.cell 2
  simp only [List.getElem?_cons_zero, List.getElem?_cons_succ] at y0 y1 y2
  change World.cell? (w.alloc (.cells #[.int .i64 y.who, .int .i64 y.v, .bool y.gone] 95)) _ = _ at y0 y1 y2
  have k2 := (hB.cell (p := ⟨T2, 0, none⟩) l2).trans h2
  have k5 := (hB.cell (p := ⟨T5, 0, none⟩) l5).trans h5
  have k3 := (hB.cell (p := ⟨T3, 0, none⟩) l3).trans h3
  have kx := (hB.cell (p := ⟨X, 0, none⟩) hXl).trans hx
  have HC := hid (hc.below hB)
  have HG := hid hg
  have HA := hid (h.below hB)
  have hsz1 : (w.alloc (.cells #[.int .i64 y.who, .int .i64 y.v, .bool y.gone] 95)).heap.size = w.heap.size + 1 := by simp
  generalize hW1 : w.alloc (.cells #[.int .i64 y.who, .int .i64 y.v, .bool y.gone] 95) = W1 at *
  have hI : Calls Try.prog 79 #[.slice (some ⟨g, 0, none⟩) n cap, .func (.func 81) #[] #[.pointer (some ⟨w.heap.size, 0, none⟩)]] W1 fun e w' => e = .returned (.int .i64 (i : Int)) ∧ Below W1.heap.size W1 w' := by
    subst hn
    refine index_same W1 _ cap l #[.pointer (some ⟨w.heap.size, 0, none⟩)] (fun z => z.who == y.who) HA.out.len HA.out.versO (fun W z _ hb => ?_) _ hi
    rw [app1]
    exact same_S W w.heap.size y.who z ((hb.cell (p := ⟨w.heap.size, 0, none⟩) (by simp; omega)).trans y0) (by have := hb.size; omega)
  have HI := hid hI
  clear hI
  have hwr : IntKind.i64.wrap ((i : Int) + 1) = (i : Int) + 1 := by rw [IntKind.wrap_i64]; omega
  have HWR := hid hwr
  clear hwr
  have hmx : (n : Int) ≤ 9223372036854775807 := by have := h.len; omega
  have HNL := hid hn
  clear h hc hg h2 h5 h3 hx hi hn  hsz1 bY
  subst hW1
  go_enter Try.func80, Try.ntmps80
  go_wp2_with fail
  refine HI.out.mono ?_
  rintro e w' ⟨rfl, hb1⟩
  have hb2 := hB.trans (hb1.mono (by simp))
  have q2 := (hb1.cell (p := ⟨T2, 0, none⟩) (by simp; omega)).trans k2
  have q5 := (hb1.cell (p := ⟨T5, 0, none⟩) (by simp; omega)).trans k5
  have q3 := (hb1.cell (p := ⟨T3, 0, none⟩) (by simp; omega)).trans k3
  have qx := (hb1.cell (p := ⟨X, 0, none⟩) (by simp; omega)).trans kx
  have p0 := (hb1.cell (p := ⟨w.heap.size, 0, none⟩) (by simp)).trans y0
  have p1 := (hb1.cell (p := ⟨w.heap.size, 1, none⟩) (by simp)).trans y1
  have p2 := (hb1.cell (p := ⟨w.heap.size, 2, none⟩) (by simp)).trans y2
  have hsz2 := hb1.size
  simp only [World.size_alloc] at hsz2
  have HSet : ∀ W, Below w'.heap.size w' W → Calls Try.prog 78 #[.agg #[.int .i64 y.who, .int .i64 y.v, .bool y.gone], .pointer (some ⟨T3, 0, none⟩)] W fun e W' => e = .returned (.bool s) ∧ Below W.heap.size W W' := by
    intro W hb
    rw [← hs]
    exact settled1_S W T3 B S c y ((hb.cell (p := ⟨T3, 0, none⟩) (by show T3 < _; omega)).trans q3) (by have := hb.size; omega) ((HC.out.below hb1).below hb) HG.out
  have HSET := hid HSet
  have hb1s := hb1.size
  have HCN : ∀ A', VersO (w.heap.size + 1) (w.alloc (.cells #[.int .i64 y.who, .int .i64 y.v, .bool y.gone] 95)) A' (l.drop (i + 1)) → ∀ W, Below w'.heap.size w' W → Calls Try.prog 82 #[.slice A' (n - (i + 1)) (cap - (i + 1)), .func (.func 78) #[] #[.pointer (some ⟨T3, 0, none⟩)]] W fun e W' => e = .returned (.bool a) ∧ Below W.heap.size W W' := by
    intro A' hA' W hb
    have hbs := hb.size
    have := contains_settled W A' (cap - (i + 1)) (l.drop (i + 1)) #[.pointer (some ⟨T3, 0, none⟩)] (fun z => c.settled z.who) (by have := HNL.out; simp; omega) (VersO.mono (by omega) (VersO.below (hb.mono (by omega)) (VersO.below (hb1.mono (by simp)) hA'))) (fun W2 z _ hb2 => by
      rw [app1]
      exact settled1_S W2 T3 B S c z ((hb2.cell (p := ⟨T3, 0, none⟩) (by show T3 < _; omega)).trans ((hb.cell (p := ⟨T3, 0, none⟩) (by show T3 < _; omega)).trans q3)) (by have := hb2.size; omega) (((HC.out.below hb1).below hb).below hb2) HG.out) a ha
    rwa [List.length_drop, ← HNL.out] at this
  have hVO := HA.out.versO
  have hq0 : (0 : Int) ≤ (i : Int) + 1 := by omega
  have hq1 : (i : Int) + 1 ≤ (n : Int) := by omega
  have hq2 : (n : Int) ≤ (cap : Int) := by omega
  have HAN : ∃ A', ((if cap = i + 1 then some ⟨g, 0, none⟩ else some ⟨g, 0 + (i + 1) * 3, none⟩) : Option Addr) = A' ∧ VersO (w.heap.size + 1) (w.alloc (.cells #[.int .i64 y.who, .int .i64 y.v, .bool y.gone] 95)) A' (l.drop (i + 1)) := by
    refine ⟨_, rfl, fun j z hz => ?_⟩
    rw [List.getElem?_drop] at hz
    have hjl := (List.getElem?_eq_some_iff.1 hz).1
    have hnl := HNL.out
    obtain ⟨g', o, e, hg', c0, c1, c2⟩ := hVO _ z hz
    cases e
    rw [if_neg (by omega)]
    refine ⟨g, 0 + (i + 1) * 3, rfl, by simpa using hg', ?_, ?_, ?_⟩
    · rw [← c0]; congr 2; omega
    · rw [← c1]; congr 2; omega
    · rw [← c2]; congr 2; omega
  obtain ⟨A', hA', hVA⟩ := HAN
  have HCON := hid (HCN A' hVA)
  clear HCN hVA hVO hb1s HSet HC HG HA HI k2 k5 k3 kx y0 y1 y2 q3 ha hs
  have hwr := HWR.out
  by_cases hcap : cap = i + 1
  · simp only [hcap, if_true] at hA'
    subst hA'
    subst hcap
    obtain rfl : n = i + 1 := by omega
    simp only [Nat.sub_self] at HCON
    cases a
    · by_cases hi0 : i = 0
      all_goals have HI0 := hid hi0
      all_goals clear hi0
      · cases hgn : y.gone
        all_goals rw [hgn] at p2 HSET
        all_goals have HGN := hid hgn
        all_goals clear hgn
        · go_wp2
          refine wp_region_held_drew (S := fun w1 => w1.cell? ⟨T2, 0, none⟩ = some (.pointer (some ⟨X, 0, none⟩)) ∧ w1.cell? ⟨T5, 0, none⟩ = some (.func (.func 78) #[] #[.pointer (some ⟨T3, 0, none⟩)]) ∧ w1.cell? ⟨X, 0, none⟩ = some (.slice (some ⟨g, 0, none⟩) (i + 1) (i + 1)) ∧ w1.cell? ⟨w.heap.size, 0, none⟩ = some (.int .i64 y.who) ∧ w1.cell? ⟨w.heap.size, 1, none⟩ = some (.int .i64 y.v) ∧ w1.cell? ⟨w.heap.size, 2, none⟩ = some (.bool false)) (by kernel_rfl) ⟨q2, q5, qx, p0, p1, p2⟩ (fun hHeld => ?_)
          refine wpAnyH_take (i := 0) (oi := { dst := some 12, op := Op.load 54 (Operand.tmp 1), type := 54, pos := "cell.go:96", after := #[], guard := none }) (v := ?_) rfl (by kernel_rfl) (by kernel_rfl) (by kernel_rfl) (fun _ _ _ h => h) (Or.inl ⟨by rfl, ?_⟩) hHeld ?_
          rotate_left
          · (intro W1 hSw; (try dsimp only at hSw); go_simp; first | done | (with_reducible rfl))
          try simp only [Act.put, List.setIfInBounds_toArray, List.set_cons_zero, List.set_cons_succ]
          refine wpAnyH_take (i := 1) (oi := { dst := some 13, op := Op.nilCheck (Operand.tmp 12), type := 0, pos := "cell.go:96", after := #[{ on := 0, ground := Ground.data }], guard := none }) (v := ?_) rfl (by kernel_rfl) (by kernel_rfl) (by kernel_rfl) (fun _ _ _ h => h) (Or.inl ⟨by rfl, ?_⟩) hHeld ?_
          rotate_left
          · (intro W1 hSw; (try dsimp only at hSw); go_simp; first | done | (with_reducible rfl))
          try simp only [Act.put, List.setIfInBounds_toArray, List.set_cons_zero, List.set_cons_succ]
          refine wpAnyH_take (i := 2) (oi := { dst := some 14, op := Op.fieldAddr 93 (Operand.tmp 13) 0, type := 0, pos := "cell.go:96", after := #[{ on := 1, ground := Ground.data }], guard := none }) (v := ?_) rfl (by kernel_rfl) (by kernel_rfl) (by kernel_rfl) (fun _ _ _ h => h) (Or.inl ⟨by rfl, ?_⟩) hHeld ?_
          rotate_left
          · (intro W1 hSw; (try dsimp only at hSw); go_simp; first | done | (with_reducible rfl))
          try simp only [Act.put, List.setIfInBounds_toArray, List.set_cons_zero, List.set_cons_succ]
          refine wpAnyH_take (i := 3) (oi := { dst := some 15, op := Op.load 91 (Operand.tmp 14), type := 91, pos := "cell.go:96", after := #[{ on := 2, ground := Ground.data }], guard := none }) (v := ?_) rfl (by kernel_rfl) (by kernel_rfl) (by kernel_rfl) (fun _ _ _ h => h) (Or.inl ⟨by rfl, ?_⟩) hHeld ?_
          rotate_left
          · (intro W1 hSw; (try dsimp only at hSw); go_simp; first | done | (with_reducible rfl))
          try simp only [Act.put, List.setIfInBounds_toArray, List.set_cons_zero, List.set_cons_succ]
          refine wpAnyH_take (i := 4) (oi := { dst := some 16, op := Op.move (Operand.tmp 5), type := 3, pos := "cell.go:96", after := #[], guard := none }) (v := ?_) rfl (by kernel_rfl) (by kernel_rfl) (by kernel_rfl) (fun _ _ _ h => h) (Or.inl ⟨by rfl, ?_⟩) hHeld ?_
          rotate_left
          · (intro W1 hSw; (try dsimp only at hSw); go_simp; first | done | (with_reducible rfl))
          try simp only [Act.put, List.setIfInBounds_toArray, List.set_cons_zero, List.set_cons_succ]
          refine wpAnyH_take (i := 5) (oi := { dst := some 17, op := Op.binOp BinOp.add 3 (Operand.tmp 16) (Operand.const (Value.int IntKind.i64 1)) 3, type := 3, pos := "cell.go:96", after := #[{ on := 4, ground := Ground.data }], guard := none }) (v := ?_) rfl (by kernel_rfl) (by kernel_rfl) (by kernel_rfl) (fun _ _ _ h => h) (Or.inl ⟨by rfl, ?_⟩) hHeld ?_
          rotate_left
          · (intro W1 hSw; (try dsimp only at hSw); go_simp; first | done | (with_reducible rfl))
          try simp only [Act.put, List.setIfInBounds_toArray, List.set_cons_zero, List.set_cons_succ]
          refine wpAnyH_take (i := 6) (oi := { dst := some 18, op := Op.slice 91 (Operand.tmp 15) (some (Operand.tmp 17)) none none, type := 91, pos := "cell.go:96", after := #[{ on := 3, ground := Ground.data }, { on := 5, ground := Ground.data }], guard := none }) (v := ?_) rfl (by kernel_rfl) (by kernel_rfl) (by kernel_rfl) (fun _ _ _ h => h) (Or.inl ⟨by rfl, ?_⟩) hHeld ?_
          rotate_left
          · (intro W1 hSw; (try dsimp only at hSw); go_simp; first | done | (with_reducible rfl))
          try simp only [Act.put, List.setIfInBounds_toArray, List.set_cons_zero, List.set_cons_succ]
          refine wpAnyH_take (i := 7) (oi := { dst := some 19, op := Op.load 106 (Operand.tmp 2), type := 106, pos := "cell.go:96", after := #[], guard := none }) (v := ?_) rfl (by kernel_rfl) (by kernel_rfl) (by kernel_rfl) (fun _ _ _ h => h) (Or.inl ⟨by rfl, ?_⟩) hHeld ?_
          rotate_left
          · (intro W1 hSw; (try dsimp only at hSw); go_simp; first | done | (with_reducible rfl))
          try simp only [Act.put, List.setIfInBounds_toArray, List.set_cons_zero, List.set_cons_succ]
          refine wpAnyH_ready (rs := [8]) (by kernel_rfl) (by simp) ?_
          refine AllReadyH.cons (o := { dst := some 20, op := Op.call { callee := Callee.value (Operand.func 82), args := #[Operand.tmp 18, Operand.tmp 19], argTypes := #[91, 106] }, type := 4, pos := "cell.go:96", after := #[{ on := 6, ground := Ground.data }, { on := 7, ground := Ground.data }], guard := none }) rfl (fun K hK => ?_) AllReadyH.nil
          go_simp
          (go_at_call 82; refine (HCON.out _ (below_drewN w' 1)).mono ?_; rintro e wa ⟨rfl, hb⟩)
          refine hK.out _ _ (⟨(hb.cell (p := ⟨T2, 0, none⟩) (by simp; omega)).trans q2, (hb.cell (p := ⟨T5, 0, none⟩) (by simp; omega)).trans q5, (hb.cell (p := ⟨X, 0, none⟩) (by simp; omega)).trans qx, (hb.cell (p := ⟨w.heap.size, 0, none⟩) (by simp; omega)).trans p0, (hb.cell (p := ⟨w.heap.size, 1, none⟩) (by simp; omega)).trans p1, (hb.cell (p := ⟨w.heap.size, 2, none⟩) (by simp; omega)).trans p2⟩) (fun hHeld => ?_)
          clear hK K
          try simp only [Act.put, List.setIfInBounds_toArray, List.set_cons_zero, List.set_cons_succ]
          have hi0 := HI0.out
          refine wpAnyH_take (i := 9) (oi := { dst := some 21, op := Op.move (Operand.tmp 20), type := 4, pos := "cell.go:96", after := #[{ on := 8, ground := Ground.data }, { on := 8, ground := Ground.chain }], guard := none }) (v := ?_) rfl (by kernel_rfl) (by kernel_rfl) (by kernel_rfl) (fun _ _ _ h => h) (Or.inl ⟨by rfl, ?_⟩) hHeld ?_
          rotate_left
          · (intro W1 hSw; (try dsimp only at hSw); go_simp; first | done | (with_reducible rfl))
          try simp only [Act.put, List.setIfInBounds_toArray, List.set_cons_zero, List.set_cons_succ]
          refine wpAnyH_take (i := 10) (oi := { dst := some 22, op := Op.move (Operand.tmp 5), type := 3, pos := "cell.go:96", after := #[{ on := 9, ground := Ground.guard }], guard := some (9, false) }) (v := ?_) rfl (by kernel_rfl) (by kernel_rfl) (by kernel_rfl) (fun _ _ _ h => h) (Or.inl ⟨by rfl, ?_⟩) hHeld ?_
          rotate_left
          · (intro W1 hSw; (try dsimp only at hSw); go_simp; first | done | (with_reducible rfl))
          try simp only [Act.put, List.setIfInBounds_toArray, List.set_cons_zero, List.set_cons_succ]
          refine wpAnyH_take (i := 11) (oi := { dst := some 23, op := Op.binOp BinOp.eql 3 (Operand.tmp 22) (Operand.const (Value.int IntKind.i64 0)) 3, type := 4, pos := "cell.go:96", after := #[{ on := 10, ground := Ground.data }, { on := 9, ground := Ground.guard }], guard := some (9, false) }) (v := ?_) rfl (by kernel_rfl) (by kernel_rfl) (by kernel_rfl) (fun _ _ _ h => h) (Or.inl ⟨by rfl, ?_⟩) hHeld ?_
          rotate_left
          · (intro W1 hSw; (try dsimp only at hSw); go_simp; first | done | (with_reducible rfl))
          try simp only [Act.put, List.setIfInBounds_toArray, List.set_cons_zero, List.set_cons_succ]
          refine wpAnyH_take (i := 12) (oi := { dst := some 24, op := Op.move (Operand.tmp 23), type := 4, pos := "cell.go:96", after := #[{ on := 11, ground := Ground.data }, { on := 9, ground := Ground.chain }, { on := 9, ground := Ground.guard }], guard := some (9, false) }) (v := ?_) rfl (by kernel_rfl) (by kernel_rfl) (by kernel_rfl) (fun _ _ _ h => h) (Or.inl ⟨by rfl, ?_⟩) hHeld ?_
          rotate_left
          · (intro W1 hSw; (try dsimp only at hSw); go_simp; first | done | (with_reducible rfl))
          try simp only [Act.put, List.setIfInBounds_toArray, List.set_cons_zero, List.set_cons_succ]
          refine wpAnyH_take (i := 13) (oi := { dst := some 25, op := Op.fieldAddr 95 (Operand.tmp 3) 2, type := 0, pos := "cell.go:96", after := #[{ on := 12, ground := Ground.guard }], guard := some (12, true) }) (v := ?_) rfl (by kernel_rfl) (by kernel_rfl) (by kernel_rfl) (fun _ _ _ h => h) (Or.inl ⟨by rfl, ?_⟩) hHeld ?_
          rotate_left
          · (intro W1 hSw; (try dsimp only at hSw); go_simp; first | done | (with_reducible rfl))
          try simp only [Act.put, List.setIfInBounds_toArray, List.set_cons_zero, List.set_cons_succ]
          refine wpAnyH_take (i := 14) (oi := { dst := some 26, op := Op.load 4 (Operand.tmp 25), type := 4, pos := "cell.go:96", after := #[{ on := 13, ground := Ground.data }, { on := 12, ground := Ground.guard }], guard := some (12, true) }) (v := ?_) rfl (by kernel_rfl) (by kernel_rfl) (by kernel_rfl) (fun _ _ _ h => h) (Or.inl ⟨by rfl, ?_⟩) hHeld ?_
          rotate_left
          · (intro W1 hSw; (try dsimp only at hSw); go_simp; first | done | (with_reducible rfl))
          try simp only [Act.put, List.setIfInBounds_toArray, List.set_cons_zero, List.set_cons_succ]
          refine wpAnyH_take (i := 15) (oi := { dst := some 27, op := Op.pick (Operand.tmp 24) (Operand.tmp 26) (Operand.const (Value.bool false)), type := 4, pos := "cell.go:96", after := #[{ on := 12, ground := Ground.data }, { on := 14, ground := Ground.data }, { on := 9, ground := Ground.guard }], guard := some (9, false) }) (v := ?_) rfl (by kernel_rfl) (by kernel_rfl) (by kernel_rfl) (fun _ _ _ h => h) (Or.inl ⟨by rfl, ?_⟩) hHeld ?_
          rotate_left
          · (intro W1 hSw; (try dsimp only at hSw); go_simp; first | done | (with_reducible rfl))
          try simp only [Act.put, List.setIfInBounds_toArray, List.set_cons_zero, List.set_cons_succ]
          refine wpAnyH_take (i := 16) (oi := { dst := some 28, op := Op.move (Operand.tmp 27), type := 4, pos := "cell.go:96", after := #[{ on := 15, ground := Ground.data }, { on := 12, ground := Ground.chain }, { on := 9, ground := Ground.guard }], guard := some (9, false) }) (v := ?_) rfl (by kernel_rfl) (by kernel_rfl) (by kernel_rfl) (fun _ _ _ h => h) (Or.inl ⟨by rfl, ?_⟩) hHeld ?_
          rotate_left
          · (intro W1 hSw; (try dsimp only at hSw); go_simp; first | done | (with_reducible rfl))
          try simp only [Act.put, List.setIfInBounds_toArray, List.set_cons_zero, List.set_cons_succ]
          refine wpAnyH_take (i := 17) (oi := { dst := some 29, op := Op.load 106 (Operand.tmp 2), type := 106, pos := "cell.go:96", after := #[{ on := 16, ground := Ground.guard }], guard := some (16, true) }) (v := undef) rfl (by kernel_rfl) (by kernel_rfl) (by kernel_rfl) (fun _ _ _ h => h) (Or.inr ⟨by rfl, rfl⟩) hHeld ?_
          try simp only [Act.put, List.setIfInBounds_toArray, List.set_cons_zero, List.set_cons_succ]
          refine wpAnyH_take (i := 18) (oi := { dst := some 30, op := Op.load 95 (Operand.tmp 3), type := 95, pos := "cell.go:96", after := #[{ on := 16, ground := Ground.guard }], guard := some (16, true) }) (v := undef) rfl (by kernel_rfl) (by kernel_rfl) (by kernel_rfl) (fun _ _ _ h => h) (Or.inr ⟨by rfl, rfl⟩) hHeld ?_
          try simp only [Act.put, List.setIfInBounds_toArray, List.set_cons_zero, List.set_cons_succ]
          refine wpAnyH_take (i := 19) (oi := { dst := some 31, op := Op.call { callee := Callee.value (Operand.tmp 29), args := #[Operand.tmp 30], argTypes := #[95] }, type := 4, pos := "cell.go:96", after := #[{ on := 17, ground := Ground.data }, { on := 18, ground := Ground.data }, { on := 16, ground := Ground.chain }, { on := 16, ground := Ground.guard }], guard := some (16, true) }) (v := undef) rfl (by kernel_rfl) (by kernel_rfl) (by kernel_rfl) (fun _ _ _ h => h) (Or.inr ⟨by rfl, rfl⟩) hHeld ?_
          try simp only [Act.put, List.setIfInBounds_toArray, List.set_cons_zero, List.set_cons_succ]
          refine wpAnyH_take (i := 20) (oi := { dst := some 32, op := Op.pick (Operand.tmp 28) (Operand.tmp 31) (Operand.const (Value.bool false)), type := 4, pos := "cell.go:96", after := #[{ on := 16, ground := Ground.data }, { on := 19, ground := Ground.data }, { on := 9, ground := Ground.guard }], guard := some (9, false) }) (v := ?_) rfl (by kernel_rfl) (by kernel_rfl) (by kernel_rfl) (fun _ _ _ h => h) (Or.inl ⟨by rfl, ?_⟩) hHeld ?_
          rotate_left
          · (intro W1 hSw; (try dsimp only at hSw); go_simp; first | done | (with_reducible rfl))
          try simp only [Act.put, List.setIfInBounds_toArray, List.set_cons_zero, List.set_cons_succ]
          refine wpAnyH_take (i := 21) (oi := { dst := some 33, op := Op.pick (Operand.tmp 21) (Operand.const (Value.bool true)) (Operand.tmp 32), type := 4, pos := "cell.go:96", after := #[{ on := 9, ground := Ground.data }, { on := 20, ground := Ground.data }], guard := none }) (v := ?_) rfl (by kernel_rfl) (by kernel_rfl) (by kernel_rfl) (fun _ _ _ h => h) (Or.inl ⟨by rfl, ?_⟩) hHeld ?_
          rotate_left
          · (intro W1 hSw; (try dsimp only at hSw); go_simp; first | done | (with_reducible rfl))
          try simp only [Act.put, List.setIfInBounds_toArray, List.set_cons_zero, List.set_cons_succ]
          refine wpAnyH_take (i := 22) (oi := { dst := some 4, op := Op.assign (Operand.tmp 33), type := 4, pos := "cell.go:96", after := #[{ on := 21, ground := Ground.data }, { on := 19, ground := Ground.chain }, { on := 0, ground := Ground.phase }, { on := 1, ground := Ground.phase }, { on := 2, ground := Ground.phase }, { on := 3, ground := Ground.phase }, { on := 4, ground := Ground.phase }, { on := 5, ground := Ground.phase }, { on := 6, ground := Ground.phase }, { on := 7, ground := Ground.phase }, { on := 8, ground := Ground.phase }, { on := 9, ground := Ground.phase }, { on := 10, ground := Ground.phase }, { on := 11, ground := Ground.phase }, { on := 12, ground := Ground.phase }, { on := 13, ground := Ground.phase }, { on := 14, ground := Ground.phase }, { on := 15, ground := Ground.phase }, { on := 16, ground := Ground.phase }, { on := 17, ground := Ground.phase }, { on := 18, ground := Ground.phase }, { on := 19, ground := Ground.phase }, { on := 20, ground := Ground.phase }, { on := 21, ground := Ground.phase }], guard := none }) (v := ?_) rfl (by kernel_rfl) (by kernel_rfl) (by kernel_rfl) (fun _ _ _ h => h) (Or.inl ⟨by rfl, ?_⟩) hHeld ?_
          rotate_left
          · (intro W1 hSw; (try dsimp only at hSw); go_simp; first | done | (with_reducible rfl))
          try simp only [Act.put, List.setIfInBounds_toArray, List.set_cons_zero, List.set_cons_succ]
          refine wpAnyH_done (by kernel_rfl) ?_ _
          go_wp2
          go_ret
          exact ⟨by simp [HGN.out], hb2.trans (((below_drewN w' 1).trans (hb.mono (by simp))).mono (by omega))⟩
        · cases s
          all_goals
            go_wp2
            refine wp_region_held_drew (S := fun w1 => w1.cell? ⟨T2, 0, none⟩ = some (.pointer (some ⟨X, 0, none⟩)) ∧ w1.cell? ⟨T5, 0, none⟩ = some (.func (.func 78) #[] #[.pointer (some ⟨T3, 0, none⟩)]) ∧ w1.cell? ⟨X, 0, none⟩ = some (.slice (some ⟨g, 0, none⟩) (i + 1) (i + 1)) ∧ w1.cell? ⟨w.heap.size, 0, none⟩ = some (.int .i64 y.who) ∧ w1.cell? ⟨w.heap.size, 1, none⟩ = some (.int .i64 y.v) ∧ w1.cell? ⟨w.heap.size, 2, none⟩ = some (.bool true)) (by kernel_rfl) ⟨q2, q5, qx, p0, p1, p2⟩ (fun hHeld => ?_)
            refine wpAnyH_take (i := 0) (oi := { dst := some 12, op := Op.load 54 (Operand.tmp 1), type := 54, pos := "cell.go:96", after := #[], guard := none }) (v := ?_) rfl (by kernel_rfl) (by kernel_rfl) (by kernel_rfl) (fun _ _ _ h => h) (Or.inl ⟨by rfl, ?_⟩) hHeld ?_
            rotate_left
            · (intro W1 hSw; (try dsimp only at hSw); go_simp; first | done | (with_reducible rfl))
            try simp only [Act.put, List.setIfInBounds_toArray, List.set_cons_zero, List.set_cons_succ]
            refine wpAnyH_take (i := 1) (oi := { dst := some 13, op := Op.nilCheck (Operand.tmp 12), type := 0, pos := "cell.go:96", after := #[{ on := 0, ground := Ground.data }], guard := none }) (v := ?_) rfl (by kernel_rfl) (by kernel_rfl) (by kernel_rfl) (fun _ _ _ h => h) (Or.inl ⟨by rfl, ?_⟩) hHeld ?_
            rotate_left
            · (intro W1 hSw; (try dsimp only at hSw); go_simp; first | done | (with_reducible rfl))
            try simp only [Act.put, List.setIfInBounds_toArray, List.set_cons_zero, List.set_cons_succ]
            refine wpAnyH_take (i := 2) (oi := { dst := some 14, op := Op.fieldAddr 93 (Operand.tmp 13) 0, type := 0, pos := "cell.go:96", after := #[{ on := 1, ground := Ground.data }], guard := none }) (v := ?_) rfl (by kernel_rfl) (by kernel_rfl) (by kernel_rfl) (fun _ _ _ h => h) (Or.inl ⟨by rfl, ?_⟩) hHeld ?_
            rotate_left
            · (intro W1 hSw; (try dsimp only at hSw); go_simp; first | done | (with_reducible rfl))
            try simp only [Act.put, List.setIfInBounds_toArray, List.set_cons_zero, List.set_cons_succ]
            refine wpAnyH_take (i := 3) (oi := { dst := some 15, op := Op.load 91 (Operand.tmp 14), type := 91, pos := "cell.go:96", after := #[{ on := 2, ground := Ground.data }], guard := none }) (v := ?_) rfl (by kernel_rfl) (by kernel_rfl) (by kernel_rfl) (fun _ _ _ h => h) (Or.inl ⟨by rfl, ?_⟩) hHeld ?_
            rotate_left
            · (intro W1 hSw; (try dsimp only at hSw); go_simp; first | done | (with_reducible rfl))
            try simp only [Act.put, List.setIfInBounds_toArray, List.set_cons_zero, List.set_cons_succ]
            refine wpAnyH_take (i := 4) (oi := { dst := some 16, op := Op.move (Operand.tmp 5), type := 3, pos := "cell.go:96", after := #[], guard := none }) (v := ?_) rfl (by kernel_rfl) (by kernel_rfl) (by kernel_rfl) (fun _ _ _ h => h) (Or.inl ⟨by rfl, ?_⟩) hHeld ?_
            rotate_left
            · (intro W1 hSw; (try dsimp only at hSw); go_simp; first | done | (with_reducible rfl))
            try simp only [Act.put, List.setIfInBounds_toArray, List.set_cons_zero, List.set_cons_succ]
            refine wpAnyH_take (i := 5) (oi := { dst := some 17, op := Op.binOp BinOp.add 3 (Operand.tmp 16) (Operand.const (Value.int IntKind.i64 1)) 3, type := 3, pos := "cell.go:96", after := #[{ on := 4, ground := Ground.data }], guard := none }) (v := ?_) rfl (by kernel_rfl) (by kernel_rfl) (by kernel_rfl) (fun _ _ _ h => h) (Or.inl ⟨by rfl, ?_⟩) hHeld ?_
            rotate_left
            · (intro W1 hSw; (try dsimp only at hSw); go_simp; first | done | (with_reducible rfl))
            try simp only [Act.put, List.setIfInBounds_toArray, List.set_cons_zero, List.set_cons_succ]
            refine wpAnyH_take (i := 6) (oi := { dst := some 18, op := Op.slice 91 (Operand.tmp 15) (some (Operand.tmp 17)) none none, type := 91, pos := "cell.go:96", after := #[{ on := 3, ground := Ground.data }, { on := 5, ground := Ground.data }], guard := none }) (v := ?_) rfl (by kernel_rfl) (by kernel_rfl) (by kernel_rfl) (fun _ _ _ h => h) (Or.inl ⟨by rfl, ?_⟩) hHeld ?_
            rotate_left
            · (intro W1 hSw; (try dsimp only at hSw); go_simp; first | done | (with_reducible rfl))
            try simp only [Act.put, List.setIfInBounds_toArray, List.set_cons_zero, List.set_cons_succ]
            refine wpAnyH_take (i := 7) (oi := { dst := some 19, op := Op.load 106 (Operand.tmp 2), type := 106, pos := "cell.go:96", after := #[], guard := none }) (v := ?_) rfl (by kernel_rfl) (by kernel_rfl) (by kernel_rfl) (fun _ _ _ h => h) (Or.inl ⟨by rfl, ?_⟩) hHeld ?_
            rotate_left
            · (intro W1 hSw; (try dsimp only at hSw); go_simp; first | done | (with_reducible rfl))
            try simp only [Act.put, List.setIfInBounds_toArray, List.set_cons_zero, List.set_cons_succ]
            refine wpAnyH_ready (rs := [8]) (by kernel_rfl) (by simp) ?_
            refine AllReadyH.cons (o := { dst := some 20, op := Op.call { callee := Callee.value (Operand.func 82), args := #[Operand.tmp 18, Operand.tmp 19], argTypes := #[91, 106] }, type := 4, pos := "cell.go:96", after := #[{ on := 6, ground := Ground.data }, { on := 7, ground := Ground.data }], guard := none }) rfl (fun K hK => ?_) AllReadyH.nil
            go_simp
            (go_at_call 82; refine (HCON.out _ (below_drewN w' 1)).mono ?_; rintro e wa ⟨rfl, hb⟩)
            refine hK.out _ _ (⟨(hb.cell (p := ⟨T2, 0, none⟩) (by simp; omega)).trans q2, (hb.cell (p := ⟨T5, 0, none⟩) (by simp; omega)).trans q5, (hb.cell (p := ⟨X, 0, none⟩) (by simp; omega)).trans qx, (hb.cell (p := ⟨w.heap.size, 0, none⟩) (by simp; omega)).trans p0, (hb.cell (p := ⟨w.heap.size, 1, none⟩) (by simp; omega)).trans p1, (hb.cell (p := ⟨w.heap.size, 2, none⟩) (by simp; omega)).trans p2⟩) (fun hHeld => ?_)
            clear hK K
            try simp only [Act.put, List.setIfInBounds_toArray, List.set_cons_zero, List.set_cons_succ]
            have hi0 := HI0.out
            refine wpAnyH_take (i := 9) (oi := { dst := some 21, op := Op.move (Operand.tmp 20), type := 4, pos := "cell.go:96", after := #[{ on := 8, ground := Ground.data }, { on := 8, ground := Ground.chain }], guard := none }) (v := ?_) rfl (by kernel_rfl) (by kernel_rfl) (by kernel_rfl) (fun _ _ _ h => h) (Or.inl ⟨by rfl, ?_⟩) hHeld ?_
            rotate_left
            · (intro W1 hSw; (try dsimp only at hSw); go_simp; first | done | (with_reducible rfl))
            try simp only [Act.put, List.setIfInBounds_toArray, List.set_cons_zero, List.set_cons_succ]
            refine wpAnyH_take (i := 10) (oi := { dst := some 22, op := Op.move (Operand.tmp 5), type := 3, pos := "cell.go:96", after := #[{ on := 9, ground := Ground.guard }], guard := some (9, false) }) (v := ?_) rfl (by kernel_rfl) (by kernel_rfl) (by kernel_rfl) (fun _ _ _ h => h) (Or.inl ⟨by rfl, ?_⟩) hHeld ?_
            rotate_left
            · (intro W1 hSw; (try dsimp only at hSw); go_simp; first | done | (with_reducible rfl))
            try simp only [Act.put, List.setIfInBounds_toArray, List.set_cons_zero, List.set_cons_succ]
            refine wpAnyH_take (i := 11) (oi := { dst := some 23, op := Op.binOp BinOp.eql 3 (Operand.tmp 22) (Operand.const (Value.int IntKind.i64 0)) 3, type := 4, pos := "cell.go:96", after := #[{ on := 10, ground := Ground.data }, { on := 9, ground := Ground.guard }], guard := some (9, false) }) (v := ?_) rfl (by kernel_rfl) (by kernel_rfl) (by kernel_rfl) (fun _ _ _ h => h) (Or.inl ⟨by rfl, ?_⟩) hHeld ?_
            rotate_left
            · (intro W1 hSw; (try dsimp only at hSw); go_simp; first | done | (with_reducible rfl))
            try simp only [Act.put, List.setIfInBounds_toArray, List.set_cons_zero, List.set_cons_succ]
            refine wpAnyH_take (i := 12) (oi := { dst := some 24, op := Op.move (Operand.tmp 23), type := 4, pos := "cell.go:96", after := #[{ on := 11, ground := Ground.data }, { on := 9, ground := Ground.chain }, { on := 9, ground := Ground.guard }], guard := some (9, false) }) (v := ?_) rfl (by kernel_rfl) (by kernel_rfl) (by kernel_rfl) (fun _ _ _ h => h) (Or.inl ⟨by rfl, ?_⟩) hHeld ?_
            rotate_left
            · (intro W1 hSw; (try dsimp only at hSw); go_simp; first | done | (with_reducible rfl))
            try simp only [Act.put, List.setIfInBounds_toArray, List.set_cons_zero, List.set_cons_succ]
            refine wpAnyH_take (i := 13) (oi := { dst := some 25, op := Op.fieldAddr 95 (Operand.tmp 3) 2, type := 0, pos := "cell.go:96", after := #[{ on := 12, ground := Ground.guard }], guard := some (12, true) }) (v := ?_) rfl (by kernel_rfl) (by kernel_rfl) (by kernel_rfl) (fun _ _ _ h => h) (Or.inl ⟨by rfl, ?_⟩) hHeld ?_
            rotate_left
            · (intro W1 hSw; (try dsimp only at hSw); go_simp; first | done | (with_reducible rfl))
            try simp only [Act.put, List.setIfInBounds_toArray, List.set_cons_zero, List.set_cons_succ]
            refine wpAnyH_take (i := 14) (oi := { dst := some 26, op := Op.load 4 (Operand.tmp 25), type := 4, pos := "cell.go:96", after := #[{ on := 13, ground := Ground.data }, { on := 12, ground := Ground.guard }], guard := some (12, true) }) (v := ?_) rfl (by kernel_rfl) (by kernel_rfl) (by kernel_rfl) (fun _ _ _ h => h) (Or.inl ⟨by rfl, ?_⟩) hHeld ?_
            rotate_left
            · (intro W1 hSw; (try dsimp only at hSw); go_simp; first | done | (with_reducible rfl))
            try simp only [Act.put, List.setIfInBounds_toArray, List.set_cons_zero, List.set_cons_succ]
            refine wpAnyH_take (i := 15) (oi := { dst := some 27, op := Op.pick (Operand.tmp 24) (Operand.tmp 26) (Operand.const (Value.bool false)), type := 4, pos := "cell.go:96", after := #[{ on := 12, ground := Ground.data }, { on := 14, ground := Ground.data }, { on := 9, ground := Ground.guard }], guard := some (9, false) }) (v := ?_) rfl (by kernel_rfl) (by kernel_rfl) (by kernel_rfl) (fun _ _ _ h => h) (Or.inl ⟨by rfl, ?_⟩) hHeld ?_
            rotate_left
            · (intro W1 hSw; (try dsimp only at hSw); go_simp; first | done | (with_reducible rfl))
            try simp only [Act.put, List.setIfInBounds_toArray, List.set_cons_zero, List.set_cons_succ]
            refine wpAnyH_take (i := 16) (oi := { dst := some 28, op := Op.move (Operand.tmp 27), type := 4, pos := "cell.go:96", after := #[{ on := 15, ground := Ground.data }, { on := 12, ground := Ground.chain }, { on := 9, ground := Ground.guard }], guard := some (9, false) }) (v := ?_) rfl (by kernel_rfl) (by kernel_rfl) (by kernel_rfl) (fun _ _ _ h => h) (Or.inl ⟨by rfl, ?_⟩) hHeld ?_
            rotate_left
            · (intro W1 hSw; (try dsimp only at hSw); go_simp; first | done | (with_reducible rfl))
            try simp only [Act.put, List.setIfInBounds_toArray, List.set_cons_zero, List.set_cons_succ]
            refine wpAnyH_take (i := 17) (oi := { dst := some 29, op := Op.load 106 (Operand.tmp 2), type := 106, pos := "cell.go:96", after := #[{ on := 16, ground := Ground.guard }], guard := some (16, true) }) (v := ?_) rfl (by kernel_rfl) (by kernel_rfl) (by kernel_rfl) (fun _ _ _ h => h) (Or.inl ⟨by rfl, ?_⟩) hHeld ?_
            rotate_left
            · (intro W1 hSw; (try dsimp only at hSw); go_simp; first | done | (with_reducible rfl))
            try simp only [Act.put, List.setIfInBounds_toArray, List.set_cons_zero, List.set_cons_succ]
            refine wpAnyH_take (i := 18) (oi := { dst := some 30, op := Op.load 95 (Operand.tmp 3), type := 95, pos := "cell.go:96", after := #[{ on := 16, ground := Ground.guard }], guard := some (16, true) }) (v := ?_) rfl (by kernel_rfl) (by kernel_rfl) (by kernel_rfl) (fun _ _ _ h => h) (Or.inl ⟨by rfl, ?_⟩) hHeld ?_
            rotate_left
            · (intro W1 hSw; (try dsimp only at hSw); go_simp; first | done | (with_reducible rfl))
            try simp only [Act.put, List.setIfInBounds_toArray, List.set_cons_zero, List.set_cons_succ]
            refine wpAnyH_ready (rs := [19]) (by kernel_rfl) (by simp) ?_
            refine AllReadyH.cons (o := { dst := some 31, op := Op.call { callee := Callee.value (Operand.tmp 29), args := #[Operand.tmp 30], argTypes := #[95] }, type := 4, pos := "cell.go:96", after := #[{ on := 17, ground := Ground.data }, { on := 18, ground := Ground.data }, { on := 16, ground := Ground.chain }, { on := 16, ground := Ground.guard }], guard := some (16, true) }) rfl (fun K hK => ?_) AllReadyH.nil
            go_simp
            (go_at_call 78; refine (HSET.out _ ((below_drewN w' 1).trans (hb.mono (by simp)))).mono ?_; rintro e wb ⟨rfl, hbb⟩)
            refine hK.out _ _ (⟨((hbb.cell (p := ⟨T2, 0, none⟩) (by have := hb.size; simp at this ⊢; omega)).trans (hb.cell (p := ⟨T2, 0, none⟩) (by simp; omega))).trans q2, ((hbb.cell (p := ⟨T5, 0, none⟩) (by have := hb.size; simp at this ⊢; omega)).trans (hb.cell (p := ⟨T5, 0, none⟩) (by simp; omega))).trans q5, ((hbb.cell (p := ⟨X, 0, none⟩) (by have := hb.size; simp at this ⊢; omega)).trans (hb.cell (p := ⟨X, 0, none⟩) (by simp; omega))).trans qx, ((hbb.cell (p := ⟨w.heap.size, 0, none⟩) (by have := hb.size; simp at this ⊢; omega)).trans (hb.cell (p := ⟨w.heap.size, 0, none⟩) (by simp; omega))).trans p0, ((hbb.cell (p := ⟨w.heap.size, 1, none⟩) (by have := hb.size; simp at this ⊢; omega)).trans (hb.cell (p := ⟨w.heap.size, 1, none⟩) (by simp; omega))).trans p1, ((hbb.cell (p := ⟨w.heap.size, 2, none⟩) (by have := hb.size; simp at this ⊢; omega)).trans (hb.cell (p := ⟨w.heap.size, 2, none⟩) (by simp; omega))).trans p2⟩) (fun hHeld => ?_)
            clear hK K
            try simp only [Act.put, List.setIfInBounds_toArray, List.set_cons_zero, List.set_cons_succ]
            refine wpAnyH_take (i := 20) (oi := { dst := some 32, op := Op.pick (Operand.tmp 28) (Operand.tmp 31) (Operand.const (Value.bool false)), type := 4, pos := "cell.go:96", after := #[{ on := 16, ground := Ground.data }, { on := 19, ground := Ground.data }, { on := 9, ground := Ground.guard }], guard := some (9, false) }) (v := ?_) rfl (by kernel_rfl) (by kernel_rfl) (by kernel_rfl) (fun _ _ _ h => h) (Or.inl ⟨by rfl, ?_⟩) hHeld ?_
            rotate_left
            · (intro W1 hSw; (try dsimp only at hSw); go_simp; first | done | (with_reducible rfl))
            try simp only [Act.put, List.setIfInBounds_toArray, List.set_cons_zero, List.set_cons_succ]
            refine wpAnyH_take (i := 21) (oi := { dst := some 33, op := Op.pick (Operand.tmp 21) (Operand.const (Value.bool true)) (Operand.tmp 32), type := 4, pos := "cell.go:96", after := #[{ on := 9, ground := Ground.data }, { on := 20, ground := Ground.data }], guard := none }) (v := ?_) rfl (by kernel_rfl) (by kernel_rfl) (by kernel_rfl) (fun _ _ _ h => h) (Or.inl ⟨by rfl, ?_⟩) hHeld ?_
            rotate_left
            · (intro W1 hSw; (try dsimp only at hSw); go_simp; first | done | (with_reducible rfl))
            try simp only [Act.put, List.setIfInBounds_toArray, List.set_cons_zero, List.set_cons_succ]
            refine wpAnyH_take (i := 22) (oi := { dst := some 4, op := Op.assign (Operand.tmp 33), type := 4, pos := "cell.go:96", after := #[{ on := 21, ground := Ground.data }, { on := 19, ground := Ground.chain }, { on := 0, ground := Ground.phase }, { on := 1, ground := Ground.phase }, { on := 2, ground := Ground.phase }, { on := 3, ground := Ground.phase }, { on := 4, ground := Ground.phase }, { on := 5, ground := Ground.phase }, { on := 6, ground := Ground.phase }, { on := 7, ground := Ground.phase }, { on := 8, ground := Ground.phase }, { on := 9, ground := Ground.phase }, { on := 10, ground := Ground.phase }, { on := 11, ground := Ground.phase }, { on := 12, ground := Ground.phase }, { on := 13, ground := Ground.phase }, { on := 14, ground := Ground.phase }, { on := 15, ground := Ground.phase }, { on := 16, ground := Ground.phase }, { on := 17, ground := Ground.phase }, { on := 18, ground := Ground.phase }, { on := 19, ground := Ground.phase }, { on := 20, ground := Ground.phase }, { on := 21, ground := Ground.phase }], guard := none }) (v := ?_) rfl (by kernel_rfl) (by kernel_rfl) (by kernel_rfl) (fun _ _ _ h => h) (Or.inl ⟨by rfl, ?_⟩) hHeld ?_
            rotate_left
            · (intro W1 hSw; (try dsimp only at hSw); go_simp; first | done | (with_reducible rfl))
            try simp only [Act.put, List.setIfInBounds_toArray, List.set_cons_zero, List.set_cons_succ]
            refine wpAnyH_done (by kernel_rfl) ?_ _
            go_wp2
            go_ret
            exact ⟨by simp [HGN.out, HI0.out], hb2.trans (((below_drewN w' 1).trans ((hb.mono (by simp)).trans (hbb.mono (by have := hb.size; simp at this; omega)))).mono (by omega))⟩
      · go_wp2
        refine wp_region_held_drew (S := fun w1 => w1.cell? ⟨T2, 0, none⟩ = some (.pointer (some ⟨X, 0, none⟩)) ∧ w1.cell? ⟨T5, 0, none⟩ = some (.func (.func 78) #[] #[.pointer (some ⟨T3, 0, none⟩)]) ∧ w1.cell? ⟨X, 0, none⟩ = some (.slice (some ⟨g, 0, none⟩) (i + 1) (i + 1)) ∧ w1.cell? ⟨w.heap.size, 0, none⟩ = some (.int .i64 y.who) ∧ w1.cell? ⟨w.heap.size, 1, none⟩ = some (.int .i64 y.v) ∧ w1.cell? ⟨w.heap.size, 2, none⟩ = some (.bool y.gone)) (by kernel_rfl) ⟨q2, q5, qx, p0, p1, p2⟩ (fun hHeld => ?_)
        refine wpAnyH_take (i := 0) (oi := { dst := some 12, op := Op.load 54 (Operand.tmp 1), type := 54, pos := "cell.go:96", after := #[], guard := none }) (v := ?_) rfl (by kernel_rfl) (by kernel_rfl) (by kernel_rfl) (fun _ _ _ h => h) (Or.inl ⟨by rfl, ?_⟩) hHeld ?_
        rotate_left
        · (intro W1 hSw; (try dsimp only at hSw); go_simp; first | done | (with_reducible rfl))
        try simp only [Act.put, List.setIfInBounds_toArray, List.set_cons_zero, List.set_cons_succ]
        refine wpAnyH_take (i := 1) (oi := { dst := some 13, op := Op.nilCheck (Operand.tmp 12), type := 0, pos := "cell.go:96", after := #[{ on := 0, ground := Ground.data }], guard := none }) (v := ?_) rfl (by kernel_rfl) (by kernel_rfl) (by kernel_rfl) (fun _ _ _ h => h) (Or.inl ⟨by rfl, ?_⟩) hHeld ?_
        rotate_left
        · (intro W1 hSw; (try dsimp only at hSw); go_simp; first | done | (with_reducible rfl))
        try simp only [Act.put, List.setIfInBounds_toArray, List.set_cons_zero, List.set_cons_succ]
        refine wpAnyH_take (i := 2) (oi := { dst := some 14, op := Op.fieldAddr 93 (Operand.tmp 13) 0, type := 0, pos := "cell.go:96", after := #[{ on := 1, ground := Ground.data }], guard := none }) (v := ?_) rfl (by kernel_rfl) (by kernel_rfl) (by kernel_rfl) (fun _ _ _ h => h) (Or.inl ⟨by rfl, ?_⟩) hHeld ?_
        rotate_left
        · (intro W1 hSw; (try dsimp only at hSw); go_simp; first | done | (with_reducible rfl))
        try simp only [Act.put, List.setIfInBounds_toArray, List.set_cons_zero, List.set_cons_succ]
        refine wpAnyH_take (i := 3) (oi := { dst := some 15, op := Op.load 91 (Operand.tmp 14), type := 91, pos := "cell.go:96", after := #[{ on := 2, ground := Ground.data }], guard := none }) (v := ?_) rfl (by kernel_rfl) (by kernel_rfl) (by kernel_rfl) (fun _ _ _ h => h) (Or.inl ⟨by rfl, ?_⟩) hHeld ?_
        rotate_left
        · (intro W1 hSw; (try dsimp only at hSw); go_simp; first | done | (with_reducible rfl))
        try simp only [Act.put, List.setIfInBounds_toArray, List.set_cons_zero, List.set_cons_succ]
        refine wpAnyH_take (i := 4) (oi := { dst := some 16, op := Op.move (Operand.tmp 5), type := 3, pos := "cell.go:96", after := #[], guard := none }) (v := ?_) rfl (by kernel_rfl) (by kernel_rfl) (by kernel_rfl) (fun _ _ _ h => h) (Or.inl ⟨by rfl, ?_⟩) hHeld ?_
        rotate_left
        · (intro W1 hSw; (try dsimp only at hSw); go_simp; first | done | (with_reducible rfl))
        try simp only [Act.put, List.setIfInBounds_toArray, List.set_cons_zero, List.set_cons_succ]
        refine wpAnyH_take (i := 5) (oi := { dst := some 17, op := Op.binOp BinOp.add 3 (Operand.tmp 16) (Operand.const (Value.int IntKind.i64 1)) 3, type := 3, pos := "cell.go:96", after := #[{ on := 4, ground := Ground.data }], guard := none }) (v := ?_) rfl (by kernel_rfl) (by kernel_rfl) (by kernel_rfl) (fun _ _ _ h => h) (Or.inl ⟨by rfl, ?_⟩) hHeld ?_
        rotate_left
        · (intro W1 hSw; (try dsimp only at hSw); go_simp; first | done | (with_reducible rfl))
        try simp only [Act.put, List.setIfInBounds_toArray, List.set_cons_zero, List.set_cons_succ]
        refine wpAnyH_take (i := 6) (oi := { dst := some 18, op := Op.slice 91 (Operand.tmp 15) (some (Operand.tmp 17)) none none, type := 91, pos := "cell.go:96", after := #[{ on := 3, ground := Ground.data }, { on := 5, ground := Ground.data }], guard := none }) (v := ?_) rfl (by kernel_rfl) (by kernel_rfl) (by kernel_rfl) (fun _ _ _ h => h) (Or.inl ⟨by rfl, ?_⟩) hHeld ?_
        rotate_left
        · (intro W1 hSw; (try dsimp only at hSw); go_simp; first | done | (with_reducible rfl))
        try simp only [Act.put, List.setIfInBounds_toArray, List.set_cons_zero, List.set_cons_succ]
        refine wpAnyH_take (i := 7) (oi := { dst := some 19, op := Op.load 106 (Operand.tmp 2), type := 106, pos := "cell.go:96", after := #[], guard := none }) (v := ?_) rfl (by kernel_rfl) (by kernel_rfl) (by kernel_rfl) (fun _ _ _ h => h) (Or.inl ⟨by rfl, ?_⟩) hHeld ?_
        rotate_left
        · (intro W1 hSw; (try dsimp only at hSw); go_simp; first | done | (with_reducible rfl))
        try simp only [Act.put, List.setIfInBounds_toArray, List.set_cons_zero, List.set_cons_succ]
        refine wpAnyH_ready (rs := [8]) (by kernel_rfl) (by simp) ?_
        refine AllReadyH.cons (o := { dst := some 20, op := Op.call { callee := Callee.value (Operand.func 82), args := #[Operand.tmp 18, Operand.tmp 19], argTypes := #[91, 106] }, type := 4, pos := "cell.go:96", after := #[{ on := 6, ground := Ground.data }, { on := 7, ground := Ground.data }], guard := none }) rfl (fun K hK => ?_) AllReadyH.nil
        go_simp
        (go_at_call 82; refine (HCON.out _ (below_drewN w' 1)).mono ?_; rintro e wa ⟨rfl, hb⟩)
        refine hK.out _ _ (⟨(hb.cell (p := ⟨T2, 0, none⟩) (by simp; omega)).trans q2, (hb.cell (p := ⟨T5, 0, none⟩) (by simp; omega)).trans q5, (hb.cell (p := ⟨X, 0, none⟩) (by simp; omega)).trans qx, (hb.cell (p := ⟨w.heap.size, 0, none⟩) (by simp; omega)).trans p0, (hb.cell (p := ⟨w.heap.size, 1, none⟩) (by simp; omega)).trans p1, (hb.cell (p := ⟨w.heap.size, 2, none⟩) (by simp; omega)).trans p2⟩) (fun hHeld => ?_)
        clear hK K
        try simp only [Act.put, List.setIfInBounds_toArray, List.set_cons_zero, List.set_cons_succ]
        have hi0 := HI0.out
        have hi1 : ((i : Int) == 0) = false := by simp; exact hi0
        refine wpAnyH_take (i := 9) (oi := { dst := some 21, op := Op.move (Operand.tmp 20), type := 4, pos := "cell.go:96", after := #[{ on := 8, ground := Ground.data }, { on := 8, ground := Ground.chain }], guard := none }) (v := ?_) rfl (by kernel_rfl) (by kernel_rfl) (by kernel_rfl) (fun _ _ _ h => h) (Or.inl ⟨by rfl, ?_⟩) hHeld ?_
        rotate_left
        · (intro W1 hSw; (try dsimp only at hSw); go_simp; first | done | (with_reducible rfl))
        try simp only [Act.put, List.setIfInBounds_toArray, List.set_cons_zero, List.set_cons_succ]
        refine wpAnyH_take (i := 10) (oi := { dst := some 22, op := Op.move (Operand.tmp 5), type := 3, pos := "cell.go:96", after := #[{ on := 9, ground := Ground.guard }], guard := some (9, false) }) (v := ?_) rfl (by kernel_rfl) (by kernel_rfl) (by kernel_rfl) (fun _ _ _ h => h) (Or.inl ⟨by rfl, ?_⟩) hHeld ?_
        rotate_left
        · (intro W1 hSw; (try dsimp only at hSw); go_simp; first | done | (with_reducible rfl))
        try simp only [Act.put, List.setIfInBounds_toArray, List.set_cons_zero, List.set_cons_succ]
        refine wpAnyH_take (i := 11) (oi := { dst := some 23, op := Op.binOp BinOp.eql 3 (Operand.tmp 22) (Operand.const (Value.int IntKind.i64 0)) 3, type := 4, pos := "cell.go:96", after := #[{ on := 10, ground := Ground.data }, { on := 9, ground := Ground.guard }], guard := some (9, false) }) (v := ?_) rfl (by kernel_rfl) (by kernel_rfl) (by kernel_rfl) (fun _ _ _ h => h) (Or.inl ⟨by rfl, ?_⟩) hHeld ?_
        rotate_left
        · (intro W1 hSw; (try dsimp only at hSw); go_simp; first | done | (with_reducible rfl))
        try simp only [Act.put, List.setIfInBounds_toArray, List.set_cons_zero, List.set_cons_succ]
        refine wpAnyH_take (i := 12) (oi := { dst := some 24, op := Op.move (Operand.tmp 23), type := 4, pos := "cell.go:96", after := #[{ on := 11, ground := Ground.data }, { on := 9, ground := Ground.chain }, { on := 9, ground := Ground.guard }], guard := some (9, false) }) (v := ?_) rfl (by kernel_rfl) (by kernel_rfl) (by kernel_rfl) (fun _ _ _ h => h) (Or.inl ⟨by rfl, ?_⟩) hHeld ?_
        rotate_left
        · (intro W1 hSw; (try dsimp only at hSw); go_simp; first | done | (with_reducible rfl))
        try simp only [Act.put, List.setIfInBounds_toArray, List.set_cons_zero, List.set_cons_succ]
        refine wpAnyH_take (i := 13) (oi := { dst := some 25, op := Op.fieldAddr 95 (Operand.tmp 3) 2, type := 0, pos := "cell.go:96", after := #[{ on := 12, ground := Ground.guard }], guard := some (12, true) }) (v := undef) rfl (by kernel_rfl) (by kernel_rfl) (by kernel_rfl) (fun _ _ _ h => h) (Or.inr ⟨by rfl, rfl⟩) hHeld ?_
        try simp only [Act.put, List.setIfInBounds_toArray, List.set_cons_zero, List.set_cons_succ]
        refine wpAnyH_take (i := 14) (oi := { dst := some 26, op := Op.load 4 (Operand.tmp 25), type := 4, pos := "cell.go:96", after := #[{ on := 13, ground := Ground.data }, { on := 12, ground := Ground.guard }], guard := some (12, true) }) (v := undef) rfl (by kernel_rfl) (by kernel_rfl) (by kernel_rfl) (fun _ _ _ h => h) (Or.inr ⟨by rfl, rfl⟩) hHeld ?_
        try simp only [Act.put, List.setIfInBounds_toArray, List.set_cons_zero, List.set_cons_succ]
        refine wpAnyH_take (i := 15) (oi := { dst := some 27, op := Op.pick (Operand.tmp 24) (Operand.tmp 26) (Operand.const (Value.bool false)), type := 4, pos := "cell.go:96", after := #[{ on := 12, ground := Ground.data }, { on := 14, ground := Ground.data }, { on := 9, ground := Ground.guard }], guard := some (9, false) }) (v := ?_) rfl (by kernel_rfl) (by kernel_rfl) (by kernel_rfl) (fun _ _ _ h => h) (Or.inl ⟨by rfl, ?_⟩) hHeld ?_
        rotate_left
        · (intro W1 hSw; (try dsimp only at hSw); go_simp; first | done | (with_reducible rfl))
        try simp only [Act.put, List.setIfInBounds_toArray, List.set_cons_zero, List.set_cons_succ]
        refine wpAnyH_take (i := 16) (oi := { dst := some 28, op := Op.move (Operand.tmp 27), type := 4, pos := "cell.go:96", after := #[{ on := 15, ground := Ground.data }, { on := 12, ground := Ground.chain }, { on := 9, ground := Ground.guard }], guard := some (9, false) }) (v := ?_) rfl (by kernel_rfl) (by kernel_rfl) (by kernel_rfl) (fun _ _ _ h => h) (Or.inl ⟨by rfl, ?_⟩) hHeld ?_
        rotate_left
        · (intro W1 hSw; (try dsimp only at hSw); go_simp; first | done | (with_reducible rfl))
        try simp only [Act.put, List.setIfInBounds_toArray, List.set_cons_zero, List.set_cons_succ]
        refine wpAnyH_take (i := 17) (oi := { dst := some 29, op := Op.load 106 (Operand.tmp 2), type := 106, pos := "cell.go:96", after := #[{ on := 16, ground := Ground.guard }], guard := some (16, true) }) (v := undef) rfl (by kernel_rfl) (by kernel_rfl) (by kernel_rfl) (fun _ _ _ h => h) (Or.inr ⟨by rfl, rfl⟩) hHeld ?_
        try simp only [Act.put, List.setIfInBounds_toArray, List.set_cons_zero, List.set_cons_succ]
        refine wpAnyH_take (i := 18) (oi := { dst := some 30, op := Op.load 95 (Operand.tmp 3), type := 95, pos := "cell.go:96", after := #[{ on := 16, ground := Ground.guard }], guard := some (16, true) }) (v := undef) rfl (by kernel_rfl) (by kernel_rfl) (by kernel_rfl) (fun _ _ _ h => h) (Or.inr ⟨by rfl, rfl⟩) hHeld ?_
        try simp only [Act.put, List.setIfInBounds_toArray, List.set_cons_zero, List.set_cons_succ]
        refine wpAnyH_take (i := 19) (oi := { dst := some 31, op := Op.call { callee := Callee.value (Operand.tmp 29), args := #[Operand.tmp 30], argTypes := #[95] }, type := 4, pos := "cell.go:96", after := #[{ on := 17, ground := Ground.data }, { on := 18, ground := Ground.data }, { on := 16, ground := Ground.chain }, { on := 16, ground := Ground.guard }], guard := some (16, true) }) (v := undef) rfl (by kernel_rfl) (by kernel_rfl) (by kernel_rfl) (fun _ _ _ h => h) (Or.inr ⟨by rfl, rfl⟩) hHeld ?_
        try simp only [Act.put, List.setIfInBounds_toArray, List.set_cons_zero, List.set_cons_succ]
        refine wpAnyH_take (i := 20) (oi := { dst := some 32, op := Op.pick (Operand.tmp 28) (Operand.tmp 31) (Operand.const (Value.bool false)), type := 4, pos := "cell.go:96", after := #[{ on := 16, ground := Ground.data }, { on := 19, ground := Ground.data }, { on := 9, ground := Ground.guard }], guard := some (9, false) }) (v := ?_) rfl (by kernel_rfl) (by kernel_rfl) (by kernel_rfl) (fun _ _ _ h => h) (Or.inl ⟨by rfl, ?_⟩) hHeld ?_
        rotate_left
        · (intro W1 hSw; (try dsimp only at hSw); go_simp; first | done | (with_reducible rfl))
        try simp only [Act.put, List.setIfInBounds_toArray, List.set_cons_zero, List.set_cons_succ]
        refine wpAnyH_take (i := 21) (oi := { dst := some 33, op := Op.pick (Operand.tmp 21) (Operand.const (Value.bool true)) (Operand.tmp 32), type := 4, pos := "cell.go:96", after := #[{ on := 9, ground := Ground.data }, { on := 20, ground := Ground.data }], guard := none }) (v := ?_) rfl (by kernel_rfl) (by kernel_rfl) (by kernel_rfl) (fun _ _ _ h => h) (Or.inl ⟨by rfl, ?_⟩) hHeld ?_
        rotate_left
        · (intro W1 hSw; (try dsimp only at hSw); go_simp; first | done | (with_reducible rfl))
        try simp only [Act.put, List.setIfInBounds_toArray, List.set_cons_zero, List.set_cons_succ]
        refine wpAnyH_take (i := 22) (oi := { dst := some 4, op := Op.assign (Operand.tmp 33), type := 4, pos := "cell.go:96", after := #[{ on := 21, ground := Ground.data }, { on := 19, ground := Ground.chain }, { on := 0, ground := Ground.phase }, { on := 1, ground := Ground.phase }, { on := 2, ground := Ground.phase }, { on := 3, ground := Ground.phase }, { on := 4, ground := Ground.phase }, { on := 5, ground := Ground.phase }, { on := 6, ground := Ground.phase }, { on := 7, ground := Ground.phase }, { on := 8, ground := Ground.phase }, { on := 9, ground := Ground.phase }, { on := 10, ground := Ground.phase }, { on := 11, ground := Ground.phase }, { on := 12, ground := Ground.phase }, { on := 13, ground := Ground.phase }, { on := 14, ground := Ground.phase }, { on := 15, ground := Ground.phase }, { on := 16, ground := Ground.phase }, { on := 17, ground := Ground.phase }, { on := 18, ground := Ground.phase }, { on := 19, ground := Ground.phase }, { on := 20, ground := Ground.phase }, { on := 21, ground := Ground.phase }], guard := none }) (v := ?_) rfl (by kernel_rfl) (by kernel_rfl) (by kernel_rfl) (fun _ _ _ h => h) (Or.inl ⟨by rfl, ?_⟩) hHeld ?_
        rotate_left
        · (intro W1 hSw; (try dsimp only at hSw); go_simp; first | done | (with_reducible rfl))
        try simp only [Act.put, List.setIfInBounds_toArray, List.set_cons_zero, List.set_cons_succ]
        refine wpAnyH_done (by kernel_rfl) ?_ _
        go_wp2
        go_ret
        exact ⟨by simp [HI0.out], hb2.trans (((below_drewN w' 1).trans (hb.mono (by simp))).mono (by omega))⟩
    · go_wp2
      refine wp_region_held_drew (S := fun w1 => w1.cell? ⟨T2, 0, none⟩ = some (.pointer (some ⟨X, 0, none⟩)) ∧ w1.cell? ⟨T5, 0, none⟩ = some (.func (.func 78) #[] #[.pointer (some ⟨T3, 0, none⟩)]) ∧ w1.cell? ⟨X, 0, none⟩ = some (.slice (some ⟨g, 0, none⟩) (i + 1) (i + 1)) ∧ w1.cell? ⟨w.heap.size, 0, none⟩ = some (.int .i64 y.who) ∧ w1.cell? ⟨w.heap.size, 1, none⟩ = some (.int .i64 y.v) ∧ w1.cell? ⟨w.heap.size, 2, none⟩ = some (.bool y.gone)) (by kernel_rfl) ⟨q2, q5, qx, p0, p1, p2⟩ (fun hHeld => ?_)
      refine wpAnyH_take (i := 0) (oi := { dst := some 12, op := Op.load 54 (Operand.tmp 1), type := 54, pos := "cell.go:96", after := #[], guard := none }) (v := ?_) rfl (by kernel_rfl) (by kernel_rfl) (by kernel_rfl) (fun _ _ _ h => h) (Or.inl ⟨by rfl, ?_⟩) hHeld ?_
      rotate_left
      · (intro W1 hSw; (try dsimp only at hSw); go_simp; first | done | (with_reducible rfl))
      try simp only [Act.put, List.setIfInBounds_toArray, List.set_cons_zero, List.set_cons_succ]
      refine wpAnyH_take (i := 1) (oi := { dst := some 13, op := Op.nilCheck (Operand.tmp 12), type := 0, pos := "cell.go:96", after := #[{ on := 0, ground := Ground.data }], guard := none }) (v := ?_) rfl (by kernel_rfl) (by kernel_rfl) (by kernel_rfl) (fun _ _ _ h => h) (Or.inl ⟨by rfl, ?_⟩) hHeld ?_
      rotate_left
      · (intro W1 hSw; (try dsimp only at hSw); go_simp; first | done | (with_reducible rfl))
      try simp only [Act.put, List.setIfInBounds_toArray, List.set_cons_zero, List.set_cons_succ]
      refine wpAnyH_take (i := 2) (oi := { dst := some 14, op := Op.fieldAddr 93 (Operand.tmp 13) 0, type := 0, pos := "cell.go:96", after := #[{ on := 1, ground := Ground.data }], guard := none }) (v := ?_) rfl (by kernel_rfl) (by kernel_rfl) (by kernel_rfl) (fun _ _ _ h => h) (Or.inl ⟨by rfl, ?_⟩) hHeld ?_
      rotate_left
      · (intro W1 hSw; (try dsimp only at hSw); go_simp; first | done | (with_reducible rfl))
      try simp only [Act.put, List.setIfInBounds_toArray, List.set_cons_zero, List.set_cons_succ]
      refine wpAnyH_take (i := 3) (oi := { dst := some 15, op := Op.load 91 (Operand.tmp 14), type := 91, pos := "cell.go:96", after := #[{ on := 2, ground := Ground.data }], guard := none }) (v := ?_) rfl (by kernel_rfl) (by kernel_rfl) (by kernel_rfl) (fun _ _ _ h => h) (Or.inl ⟨by rfl, ?_⟩) hHeld ?_
      rotate_left
      · (intro W1 hSw; (try dsimp only at hSw); go_simp; first | done | (with_reducible rfl))
      try simp only [Act.put, List.setIfInBounds_toArray, List.set_cons_zero, List.set_cons_succ]
      refine wpAnyH_take (i := 4) (oi := { dst := some 16, op := Op.move (Operand.tmp 5), type := 3, pos := "cell.go:96", after := #[], guard := none }) (v := ?_) rfl (by kernel_rfl) (by kernel_rfl) (by kernel_rfl) (fun _ _ _ h => h) (Or.inl ⟨by rfl, ?_⟩) hHeld ?_
      rotate_left
      · (intro W1 hSw; (try dsimp only at hSw); go_simp; first | done | (with_reducible rfl))
      try simp only [Act.put, List.setIfInBounds_toArray, List.set_cons_zero, List.set_cons_succ]
      refine wpAnyH_take (i := 5) (oi := { dst := some 17, op := Op.binOp BinOp.add 3 (Operand.tmp 16) (Operand.const (Value.int IntKind.i64 1)) 3, type := 3, pos := "cell.go:96", after := #[{ on := 4, ground := Ground.data }], guard := none }) (v := ?_) rfl (by kernel_rfl) (by kernel_rfl) (by kernel_rfl) (fun _ _ _ h => h) (Or.inl ⟨by rfl, ?_⟩) hHeld ?_
      rotate_left
      · (intro W1 hSw; (try dsimp only at hSw); go_simp; first | done | (with_reducible rfl))
      try simp only [Act.put, List.setIfInBounds_toArray, List.set_cons_zero, List.set_cons_succ]
      refine wpAnyH_take (i := 6) (oi := { dst := some 18, op := Op.slice 91 (Operand.tmp 15) (some (Operand.tmp 17)) none none, type := 91, pos := "cell.go:96", after := #[{ on := 3, ground := Ground.data }, { on := 5, ground := Ground.data }], guard := none }) (v := ?_) rfl (by kernel_rfl) (by kernel_rfl) (by kernel_rfl) (fun _ _ _ h => h) (Or.inl ⟨by rfl, ?_⟩) hHeld ?_
      rotate_left
      · (intro W1 hSw; (try dsimp only at hSw); go_simp; first | done | (with_reducible rfl))
      try simp only [Act.put, List.setIfInBounds_toArray, List.set_cons_zero, List.set_cons_succ]
      refine wpAnyH_take (i := 7) (oi := { dst := some 19, op := Op.load 106 (Operand.tmp 2), type := 106, pos := "cell.go:96", after := #[], guard := none }) (v := ?_) rfl (by kernel_rfl) (by kernel_rfl) (by kernel_rfl) (fun _ _ _ h => h) (Or.inl ⟨by rfl, ?_⟩) hHeld ?_
      rotate_left
      · (intro W1 hSw; (try dsimp only at hSw); go_simp; first | done | (with_reducible rfl))
      try simp only [Act.put, List.setIfInBounds_toArray, List.set_cons_zero, List.set_cons_succ]
      refine wpAnyH_ready (rs := [8]) (by kernel_rfl) (by simp) ?_
      refine AllReadyH.cons (o := { dst := some 20, op := Op.call { callee := Callee.value (Operand.func 82), args := #[Operand.tmp 18, Operand.tmp 19], argTypes := #[91, 106] }, type := 4, pos := "cell.go:96", after := #[{ on := 6, ground := Ground.data }, { on := 7, ground := Ground.data }], guard := none }) rfl (fun K hK => ?_) AllReadyH.nil
      go_simp
      (go_at_call 82; refine (HCON.out _ (below_drewN w' 1)).mono ?_; rintro e wa ⟨rfl, hb⟩)
      refine hK.out _ _ (⟨(hb.cell (p := ⟨T2, 0, none⟩) (by simp; omega)).trans q2, (hb.cell (p := ⟨T5, 0, none⟩) (by simp; omega)).trans q5, (hb.cell (p := ⟨X, 0, none⟩) (by simp; omega)).trans qx, (hb.cell (p := ⟨w.heap.size, 0, none⟩) (by simp; omega)).trans p0, (hb.cell (p := ⟨w.heap.size, 1, none⟩) (by simp; omega)).trans p1, (hb.cell (p := ⟨w.heap.size, 2, none⟩) (by simp; omega)).trans p2⟩) (fun hHeld => ?_)
      clear hK K
      try simp only [Act.put, List.setIfInBounds_toArray, List.set_cons_zero, List.set_cons_succ]
      refine wpAnyH_take (i := 9) (oi := { dst := some 21, op := Op.move (Operand.tmp 20), type := 4, pos := "cell.go:96", after := #[{ on := 8, ground := Ground.data }, { on := 8, ground := Ground.chain }], guard := none }) (v := ?_) rfl (by kernel_rfl) (by kernel_rfl) (by kernel_rfl) (fun _ _ _ h => h) (Or.inl ⟨by rfl, ?_⟩) hHeld ?_
      rotate_left
      · (intro W1 hSw; (try dsimp only at hSw); go_simp; first | done | (with_reducible rfl))
      try simp only [Act.put, List.setIfInBounds_toArray, List.set_cons_zero, List.set_cons_succ]
      refine wpAnyH_take (i := 10) (oi := { dst := some 22, op := Op.move (Operand.tmp 5), type := 3, pos := "cell.go:96", after := #[{ on := 9, ground := Ground.guard }], guard := some (9, false) }) (v := undef) rfl (by kernel_rfl) (by kernel_rfl) (by kernel_rfl) (fun _ _ _ h => h) (Or.inr ⟨by rfl, rfl⟩) hHeld ?_
      try simp only [Act.put, List.setIfInBounds_toArray, List.set_cons_zero, List.set_cons_succ]
      refine wpAnyH_take (i := 11) (oi := { dst := some 23, op := Op.binOp BinOp.eql 3 (Operand.tmp 22) (Operand.const (Value.int IntKind.i64 0)) 3, type := 4, pos := "cell.go:96", after := #[{ on := 10, ground := Ground.data }, { on := 9, ground := Ground.guard }], guard := some (9, false) }) (v := undef) rfl (by kernel_rfl) (by kernel_rfl) (by kernel_rfl) (fun _ _ _ h => h) (Or.inr ⟨by rfl, rfl⟩) hHeld ?_
      try simp only [Act.put, List.setIfInBounds_toArray, List.set_cons_zero, List.set_cons_succ]
      refine wpAnyH_take (i := 12) (oi := { dst := some 24, op := Op.move (Operand.tmp 23), type := 4, pos := "cell.go:96", after := #[{ on := 11, ground := Ground.data }, { on := 9, ground := Ground.chain }, { on := 9, ground := Ground.guard }], guard := some (9, false) }) (v := undef) rfl (by kernel_rfl) (by kernel_rfl) (by kernel_rfl) (fun _ _ _ h => h) (Or.inr ⟨by rfl, rfl⟩) hHeld ?_
      try simp only [Act.put, List.setIfInBounds_toArray, List.set_cons_zero, List.set_cons_succ]
      refine wpAnyH_take (i := 13) (oi := { dst := some 25, op := Op.fieldAddr 95 (Operand.tmp 3) 2, type := 0, pos := "cell.go:96", after := #[{ on := 12, ground := Ground.guard }], guard := some (12, true) }) (v := undef) rfl (by kernel_rfl) (by kernel_rfl) (by kernel_rfl) (fun _ _ _ h => h) (Or.inr ⟨by rfl, rfl⟩) hHeld ?_
      try simp only [Act.put, List.setIfInBounds_toArray, List.set_cons_zero, List.set_cons_succ]
      refine wpAnyH_take (i := 14) (oi := { dst := some 26, op := Op.load 4 (Operand.tmp 25), type := 4, pos := "cell.go:96", after := #[{ on := 13, ground := Ground.data }, { on := 12, ground := Ground.guard }], guard := some (12, true) }) (v := undef) rfl (by kernel_rfl) (by kernel_rfl) (by kernel_rfl) (fun _ _ _ h => h) (Or.inr ⟨by rfl, rfl⟩) hHeld ?_
      try simp only [Act.put, List.setIfInBounds_toArray, List.set_cons_zero, List.set_cons_succ]
      refine wpAnyH_take (i := 15) (oi := { dst := some 27, op := Op.pick (Operand.tmp 24) (Operand.tmp 26) (Operand.const (Value.bool false)), type := 4, pos := "cell.go:96", after := #[{ on := 12, ground := Ground.data }, { on := 14, ground := Ground.data }, { on := 9, ground := Ground.guard }], guard := some (9, false) }) (v := undef) rfl (by kernel_rfl) (by kernel_rfl) (by kernel_rfl) (fun _ _ _ h => h) (Or.inr ⟨by rfl, rfl⟩) hHeld ?_
      try simp only [Act.put, List.setIfInBounds_toArray, List.set_cons_zero, List.set_cons_succ]
      refine wpAnyH_take (i := 16) (oi := { dst := some 28, op := Op.move (Operand.tmp 27), type := 4, pos := "cell.go:96", after := #[{ on := 15, ground := Ground.data }, { on := 12, ground := Ground.chain }, { on := 9, ground := Ground.guard }], guard := some (9, false) }) (v := undef) rfl (by kernel_rfl) (by kernel_rfl) (by kernel_rfl) (fun _ _ _ h => h) (Or.inr ⟨by rfl, rfl⟩) hHeld ?_
      try simp only [Act.put, List.setIfInBounds_toArray, List.set_cons_zero, List.set_cons_succ]
      refine wpAnyH_take (i := 17) (oi := { dst := some 29, op := Op.load 106 (Operand.tmp 2), type := 106, pos := "cell.go:96", after := #[{ on := 16, ground := Ground.guard }], guard := some (16, true) }) (v := undef) rfl (by kernel_rfl) (by kernel_rfl) (by kernel_rfl) (fun _ _ _ h => h) (Or.inr ⟨by rfl, rfl⟩) hHeld ?_
      try simp only [Act.put, List.setIfInBounds_toArray, List.set_cons_zero, List.set_cons_succ]
      refine wpAnyH_take (i := 18) (oi := { dst := some 30, op := Op.load 95 (Operand.tmp 3), type := 95, pos := "cell.go:96", after := #[{ on := 16, ground := Ground.guard }], guard := some (16, true) }) (v := undef) rfl (by kernel_rfl) (by kernel_rfl) (by kernel_rfl) (fun _ _ _ h => h) (Or.inr ⟨by rfl, rfl⟩) hHeld ?_
      try simp only [Act.put, List.setIfInBounds_toArray, List.set_cons_zero, List.set_cons_succ]
      refine wpAnyH_take (i := 19) (oi := { dst := some 31, op := Op.call { callee := Callee.value (Operand.tmp 29), args := #[Operand.tmp 30], argTypes := #[95] }, type := 4, pos := "cell.go:96", after := #[{ on := 17, ground := Ground.data }, { on := 18, ground := Ground.data }, { on := 16, ground := Ground.chain }, { on := 16, ground := Ground.guard }], guard := some (16, true) }) (v := undef) rfl (by kernel_rfl) (by kernel_rfl) (by kernel_rfl) (fun _ _ _ h => h) (Or.inr ⟨by rfl, rfl⟩) hHeld ?_
      try simp only [Act.put, List.setIfInBounds_toArray, List.set_cons_zero, List.set_cons_succ]
      refine wpAnyH_take (i := 20) (oi := { dst := some 32, op := Op.pick (Operand.tmp 28) (Operand.tmp 31) (Operand.const (Value.bool false)), type := 4, pos := "cell.go:96", after := #[{ on := 16, ground := Ground.data }, { on := 19, ground := Ground.data }, { on := 9, ground := Ground.guard }], guard := some (9, false) }) (v := undef) rfl (by kernel_rfl) (by kernel_rfl) (by kernel_rfl) (fun _ _ _ h => h) (Or.inr ⟨by rfl, rfl⟩) hHeld ?_
      try simp only [Act.put, List.setIfInBounds_toArray, List.set_cons_zero, List.set_cons_succ]
      refine wpAnyH_take (i := 21) (oi := { dst := some 33, op := Op.pick (Operand.tmp 21) (Operand.const (Value.bool true)) (Operand.tmp 32), type := 4, pos := "cell.go:96", after := #[{ on := 9, ground := Ground.data }, { on := 20, ground := Ground.data }], guard := none }) (v := ?_) rfl (by kernel_rfl) (by kernel_rfl) (by kernel_rfl) (fun _ _ _ h => h) (Or.inl ⟨by rfl, ?_⟩) hHeld ?_
      rotate_left
      · (intro W1 hSw; (try dsimp only at hSw); go_simp; first | done | (with_reducible rfl))
      try simp only [Act.put, List.setIfInBounds_toArray, List.set_cons_zero, List.set_cons_succ]
      refine wpAnyH_take (i := 22) (oi := { dst := some 4, op := Op.assign (Operand.tmp 33), type := 4, pos := "cell.go:96", after := #[{ on := 21, ground := Ground.data }, { on := 19, ground := Ground.chain }, { on := 0, ground := Ground.phase }, { on := 1, ground := Ground.phase }, { on := 2, ground := Ground.phase }, { on := 3, ground := Ground.phase }, { on := 4, ground := Ground.phase }, { on := 5, ground := Ground.phase }, { on := 6, ground := Ground.phase }, { on := 7, ground := Ground.phase }, { on := 8, ground := Ground.phase }, { on := 9, ground := Ground.phase }, { on := 10, ground := Ground.phase }, { on := 11, ground := Ground.phase }, { on := 12, ground := Ground.phase }, { on := 13, ground := Ground.phase }, { on := 14, ground := Ground.phase }, { on := 15, ground := Ground.phase }, { on := 16, ground := Ground.phase }, { on := 17, ground := Ground.phase }, { on := 18, ground := Ground.phase }, { on := 19, ground := Ground.phase }, { on := 20, ground := Ground.phase }, { on := 21, ground := Ground.phase }], guard := none }) (v := ?_) rfl (by kernel_rfl) (by kernel_rfl) (by kernel_rfl) (fun _ _ _ h => h) (Or.inl ⟨by rfl, ?_⟩) hHeld ?_
      rotate_left
      · (intro W1 hSw; (try dsimp only at hSw); go_simp; first | done | (with_reducible rfl))
      try simp only [Act.put, List.setIfInBounds_toArray, List.set_cons_zero, List.set_cons_succ]
      refine wpAnyH_done (by kernel_rfl) ?_ _
      go_wp2
      go_ret
      exact ⟨by simp, hb2.trans (((below_drewN w' 1).trans (hb.mono (by simp))).mono (by omega))⟩
  · simp only [hcap, if_false, Nat.zero_add] at hA'
    subst hA'
    cases a
    · by_cases hi0 : i = 0
      all_goals have HI0 := hid hi0
      all_goals clear hi0
      · cases hgn : y.gone
        all_goals rw [hgn] at p2 HSET
        all_goals have HGN := hid hgn
        all_goals clear hgn
        · go_wp2
          refine wp_region_held_drew (S := fun w1 => w1.cell? ⟨T2, 0, none⟩ = some (.pointer (some ⟨X, 0, none⟩)) ∧ w1.cell? ⟨T5, 0, none⟩ = some (.func (.func 78) #[] #[.pointer (some ⟨T3, 0, none⟩)]) ∧ w1.cell? ⟨X, 0, none⟩ = some (.slice (some ⟨g, 0, none⟩) n cap) ∧ w1.cell? ⟨w.heap.size, 0, none⟩ = some (.int .i64 y.who) ∧ w1.cell? ⟨w.heap.size, 1, none⟩ = some (.int .i64 y.v) ∧ w1.cell? ⟨w.heap.size, 2, none⟩ = some (.bool false)) (by kernel_rfl) ⟨q2, q5, qx, p0, p1, p2⟩ (fun hHeld => ?_)
          refine wpAnyH_take (i := 0) (oi := { dst := some 12, op := Op.load 54 (Operand.tmp 1), type := 54, pos := "cell.go:96", after := #[], guard := none }) (v := ?_) rfl (by kernel_rfl) (by kernel_rfl) (by kernel_rfl) (fun _ _ _ h => h) (Or.inl ⟨by rfl, ?_⟩) hHeld ?_
          rotate_left
          · (intro W1 hSw; (try dsimp only at hSw); go_simp; first | done | (with_reducible rfl))
          try simp only [Act.put, List.setIfInBounds_toArray, List.set_cons_zero, List.set_cons_succ]
          refine wpAnyH_take (i := 1) (oi := { dst := some 13, op := Op.nilCheck (Operand.tmp 12), type := 0, pos := "cell.go:96", after := #[{ on := 0, ground := Ground.data }], guard := none }) (v := ?_) rfl (by kernel_rfl) (by kernel_rfl) (by kernel_rfl) (fun _ _ _ h => h) (Or.inl ⟨by rfl, ?_⟩) hHeld ?_
          rotate_left
          · (intro W1 hSw; (try dsimp only at hSw); go_simp; first | done | (with_reducible rfl))
          try simp only [Act.put, List.setIfInBounds_toArray, List.set_cons_zero, List.set_cons_succ]
          refine wpAnyH_take (i := 2) (oi := { dst := some 14, op := Op.fieldAddr 93 (Operand.tmp 13) 0, type := 0, pos := "cell.go:96", after := #[{ on := 1, ground := Ground.data }], guard := none }) (v := ?_) rfl (by kernel_rfl) (by kernel_rfl) (by kernel_rfl) (fun _ _ _ h => h) (Or.inl ⟨by rfl, ?_⟩) hHeld ?_
          rotate_left
          · (intro W1 hSw; (try dsimp only at hSw); go_simp; first | done | (with_reducible rfl))
          try simp only [Act.put, List.setIfInBounds_toArray, List.set_cons_zero, List.set_cons_succ]
          refine wpAnyH_take (i := 3) (oi := { dst := some 15, op := Op.load 91 (Operand.tmp 14), type := 91, pos := "cell.go:96", after := #[{ on := 2, ground := Ground.data }], guard := none }) (v := ?_) rfl (by kernel_rfl) (by kernel_rfl) (by kernel_rfl) (fun _ _ _ h => h) (Or.inl ⟨by rfl, ?_⟩) hHeld ?_
          rotate_left
          · (intro W1 hSw; (try dsimp only at hSw); go_simp; first | done | (with_reducible rfl))
          try simp only [Act.put, List.setIfInBounds_toArray, List.set_cons_zero, List.set_cons_succ]
          refine wpAnyH_take (i := 4) (oi := { dst := some 16, op := Op.move (Operand.tmp 5), type := 3, pos := "cell.go:96", after := #[], guard := none }) (v := ?_) rfl (by kernel_rfl) (by kernel_rfl) (by kernel_rfl) (fun _ _ _ h => h) (Or.inl ⟨by rfl, ?_⟩) hHeld ?_
          rotate_left
          · (intro W1 hSw; (try dsimp only at hSw); go_simp; first | done | (with_reducible rfl))
          try simp only [Act.put, List.setIfInBounds_toArray, List.set_cons_zero, List.set_cons_succ]
          refine wpAnyH_take (i := 5) (oi := { dst := some 17, op := Op.binOp BinOp.add 3 (Operand.tmp 16) (Operand.const (Value.int IntKind.i64 1)) 3, type := 3, pos := "cell.go:96", after := #[{ on := 4, ground := Ground.data }], guard := none }) (v := ?_) rfl (by kernel_rfl) (by kernel_rfl) (by kernel_rfl) (fun _ _ _ h => h) (Or.inl ⟨by rfl, ?_⟩) hHeld ?_
          rotate_left
          · (intro W1 hSw; (try dsimp only at hSw); go_simp; first | done | (with_reducible rfl))
          try simp only [Act.put, List.setIfInBounds_toArray, List.set_cons_zero, List.set_cons_succ]
          refine wpAnyH_take (i := 6) (oi := { dst := some 18, op := Op.slice 91 (Operand.tmp 15) (some (Operand.tmp 17)) none none, type := 91, pos := "cell.go:96", after := #[{ on := 3, ground := Ground.data }, { on := 5, ground := Ground.data }], guard := none }) (v := ?_) rfl (by kernel_rfl) (by kernel_rfl) (by kernel_rfl) (fun _ _ _ h => h) (Or.inl ⟨by rfl, ?_⟩) hHeld ?_
          rotate_left
          · (intro W1 hSw; (try dsimp only at hSw); go_simp; first | done | (with_reducible rfl))
          try simp only [Act.put, List.setIfInBounds_toArray, List.set_cons_zero, List.set_cons_succ]
          refine wpAnyH_take (i := 7) (oi := { dst := some 19, op := Op.load 106 (Operand.tmp 2), type := 106, pos := "cell.go:96", after := #[], guard := none }) (v := ?_) rfl (by kernel_rfl) (by kernel_rfl) (by kernel_rfl) (fun _ _ _ h => h) (Or.inl ⟨by rfl, ?_⟩) hHeld ?_
          rotate_left
          · (intro W1 hSw; (try dsimp only at hSw); go_simp; first | done | (with_reducible rfl))
          try simp only [Act.put, List.setIfInBounds_toArray, List.set_cons_zero, List.set_cons_succ]
          refine wpAnyH_ready (rs := [8]) (by kernel_rfl) (by simp) ?_
          refine AllReadyH.cons (o := { dst := some 20, op := Op.call { callee := Callee.value (Operand.func 82), args := #[Operand.tmp 18, Operand.tmp 19], argTypes := #[91, 106] }, type := 4, pos := "cell.go:96", after := #[{ on := 6, ground := Ground.data }, { on := 7, ground := Ground.data }], guard := none }) rfl (fun K hK => ?_) AllReadyH.nil
          go_simp
          (go_at_call 82; refine (HCON.out _ (below_drewN w' 1)).mono ?_; rintro e wa ⟨rfl, hb⟩)
          refine hK.out _ _ (⟨(hb.cell (p := ⟨T2, 0, none⟩) (by simp; omega)).trans q2, (hb.cell (p := ⟨T5, 0, none⟩) (by simp; omega)).trans q5, (hb.cell (p := ⟨X, 0, none⟩) (by simp; omega)).trans qx, (hb.cell (p := ⟨w.heap.size, 0, none⟩) (by simp; omega)).trans p0, (hb.cell (p := ⟨w.heap.size, 1, none⟩) (by simp; omega)).trans p1, (hb.cell (p := ⟨w.heap.size, 2, none⟩) (by simp; omega)).trans p2⟩) (fun hHeld => ?_)
          clear hK K
          try simp only [Act.put, List.setIfInBounds_toArray, List.set_cons_zero, List.set_cons_succ]
          have hi0 := HI0.out
          refine wpAnyH_take (i := 9) (oi := { dst := some 21, op := Op.move (Operand.tmp 20), type := 4, pos := "cell.go:96", after := #[{ on := 8, ground := Ground.data }, { on := 8, ground := Ground.chain }], guard := none }) (v := ?_) rfl (by kernel_rfl) (by kernel_rfl) (by kernel_rfl) (fun _ _ _ h => h) (Or.inl ⟨by rfl, ?_⟩) hHeld ?_
          rotate_left
          · (intro W1 hSw; (try dsimp only at hSw); go_simp; first | done | (with_reducible rfl))
          try simp only [Act.put, List.setIfInBounds_toArray, List.set_cons_zero, List.set_cons_succ]
          refine wpAnyH_take (i := 10) (oi := { dst := some 22, op := Op.move (Operand.tmp 5), type := 3, pos := "cell.go:96", after := #[{ on := 9, ground := Ground.guard }], guard := some (9, false) }) (v := ?_) rfl (by kernel_rfl) (by kernel_rfl) (by kernel_rfl) (fun _ _ _ h => h) (Or.inl ⟨by rfl, ?_⟩) hHeld ?_
          rotate_left
          · (intro W1 hSw; (try dsimp only at hSw); go_simp; first | done | (with_reducible rfl))
          try simp only [Act.put, List.setIfInBounds_toArray, List.set_cons_zero, List.set_cons_succ]
          refine wpAnyH_take (i := 11) (oi := { dst := some 23, op := Op.binOp BinOp.eql 3 (Operand.tmp 22) (Operand.const (Value.int IntKind.i64 0)) 3, type := 4, pos := "cell.go:96", after := #[{ on := 10, ground := Ground.data }, { on := 9, ground := Ground.guard }], guard := some (9, false) }) (v := ?_) rfl (by kernel_rfl) (by kernel_rfl) (by kernel_rfl) (fun _ _ _ h => h) (Or.inl ⟨by rfl, ?_⟩) hHeld ?_
          rotate_left
          · (intro W1 hSw; (try dsimp only at hSw); go_simp; first | done | (with_reducible rfl))
          try simp only [Act.put, List.setIfInBounds_toArray, List.set_cons_zero, List.set_cons_succ]
          refine wpAnyH_take (i := 12) (oi := { dst := some 24, op := Op.move (Operand.tmp 23), type := 4, pos := "cell.go:96", after := #[{ on := 11, ground := Ground.data }, { on := 9, ground := Ground.chain }, { on := 9, ground := Ground.guard }], guard := some (9, false) }) (v := ?_) rfl (by kernel_rfl) (by kernel_rfl) (by kernel_rfl) (fun _ _ _ h => h) (Or.inl ⟨by rfl, ?_⟩) hHeld ?_
          rotate_left
          · (intro W1 hSw; (try dsimp only at hSw); go_simp; first | done | (with_reducible rfl))
          try simp only [Act.put, List.setIfInBounds_toArray, List.set_cons_zero, List.set_cons_succ]
          refine wpAnyH_take (i := 13) (oi := { dst := some 25, op := Op.fieldAddr 95 (Operand.tmp 3) 2, type := 0, pos := "cell.go:96", after := #[{ on := 12, ground := Ground.guard }], guard := some (12, true) }) (v := ?_) rfl (by kernel_rfl) (by kernel_rfl) (by kernel_rfl) (fun _ _ _ h => h) (Or.inl ⟨by rfl, ?_⟩) hHeld ?_
          rotate_left
          · (intro W1 hSw; (try dsimp only at hSw); go_simp; first | done | (with_reducible rfl))
          try simp only [Act.put, List.setIfInBounds_toArray, List.set_cons_zero, List.set_cons_succ]
          refine wpAnyH_take (i := 14) (oi := { dst := some 26, op := Op.load 4 (Operand.tmp 25), type := 4, pos := "cell.go:96", after := #[{ on := 13, ground := Ground.data }, { on := 12, ground := Ground.guard }], guard := some (12, true) }) (v := ?_) rfl (by kernel_rfl) (by kernel_rfl) (by kernel_rfl) (fun _ _ _ h => h) (Or.inl ⟨by rfl, ?_⟩) hHeld ?_
          rotate_left
          · (intro W1 hSw; (try dsimp only at hSw); go_simp; first | done | (with_reducible rfl))
          try simp only [Act.put, List.setIfInBounds_toArray, List.set_cons_zero, List.set_cons_succ]
          refine wpAnyH_take (i := 15) (oi := { dst := some 27, op := Op.pick (Operand.tmp 24) (Operand.tmp 26) (Operand.const (Value.bool false)), type := 4, pos := "cell.go:96", after := #[{ on := 12, ground := Ground.data }, { on := 14, ground := Ground.data }, { on := 9, ground := Ground.guard }], guard := some (9, false) }) (v := ?_) rfl (by kernel_rfl) (by kernel_rfl) (by kernel_rfl) (fun _ _ _ h => h) (Or.inl ⟨by rfl, ?_⟩) hHeld ?_
          rotate_left
          · (intro W1 hSw; (try dsimp only at hSw); go_simp; first | done | (with_reducible rfl))
          try simp only [Act.put, List.setIfInBounds_toArray, List.set_cons_zero, List.set_cons_succ]
          refine wpAnyH_take (i := 16) (oi := { dst := some 28, op := Op.move (Operand.tmp 27), type := 4, pos := "cell.go:96", after := #[{ on := 15, ground := Ground.data }, { on := 12, ground := Ground.chain }, { on := 9, ground := Ground.guard }], guard := some (9, false) }) (v := ?_) rfl (by kernel_rfl) (by kernel_rfl) (by kernel_rfl) (fun _ _ _ h => h) (Or.inl ⟨by rfl, ?_⟩) hHeld ?_
          rotate_left
          · (intro W1 hSw; (try dsimp only at hSw); go_simp; first | done | (with_reducible rfl))
          try simp only [Act.put, List.setIfInBounds_toArray, List.set_cons_zero, List.set_cons_succ]
          refine wpAnyH_take (i := 17) (oi := { dst := some 29, op := Op.load 106 (Operand.tmp 2), type := 106, pos := "cell.go:96", after := #[{ on := 16, ground := Ground.guard }], guard := some (16, true) }) (v := undef) rfl (by kernel_rfl) (by kernel_rfl) (by kernel_rfl) (fun _ _ _ h => h) (Or.inr ⟨by rfl, rfl⟩) hHeld ?_
          try simp only [Act.put, List.setIfInBounds_toArray, List.set_cons_zero, List.set_cons_succ]
          refine wpAnyH_take (i := 18) (oi := { dst := some 30, op := Op.load 95 (Operand.tmp 3), type := 95, pos := "cell.go:96", after := #[{ on := 16, ground := Ground.guard }], guard := some (16, true) }) (v := undef) rfl (by kernel_rfl) (by kernel_rfl) (by kernel_rfl) (fun _ _ _ h => h) (Or.inr ⟨by rfl, rfl⟩) hHeld ?_
          try simp only [Act.put, List.setIfInBounds_toArray, List.set_cons_zero, List.set_cons_succ]
          refine wpAnyH_take (i := 19) (oi := { dst := some 31, op := Op.call { callee := Callee.value (Operand.tmp 29), args := #[Operand.tmp 30], argTypes := #[95] }, type := 4, pos := "cell.go:96", after := #[{ on := 17, ground := Ground.data }, { on := 18, ground := Ground.data }, { on := 16, ground := Ground.chain }, { on := 16, ground := Ground.guard }], guard := some (16, true) }) (v := undef) rfl (by kernel_rfl) (by kernel_rfl) (by kernel_rfl) (fun _ _ _ h => h) (Or.inr ⟨by rfl, rfl⟩) hHeld ?_
          try simp only [Act.put, List.setIfInBounds_toArray, List.set_cons_zero, List.set_cons_succ]
          refine wpAnyH_take (i := 20) (oi := { dst := some 32, op := Op.pick (Operand.tmp 28) (Operand.tmp 31) (Operand.const (Value.bool false)), type := 4, pos := "cell.go:96", after := #[{ on := 16, ground := Ground.data }, { on := 19, ground := Ground.data }, { on := 9, ground := Ground.guard }], guard := some (9, false) }) (v := ?_) rfl (by kernel_rfl) (by kernel_rfl) (by kernel_rfl) (fun _ _ _ h => h) (Or.inl ⟨by rfl, ?_⟩) hHeld ?_
          rotate_left
          · (intro W1 hSw; (try dsimp only at hSw); go_simp; first | done | (with_reducible rfl))
          try simp only [Act.put, List.setIfInBounds_toArray, List.set_cons_zero, List.set_cons_succ]
          refine wpAnyH_take (i := 21) (oi := { dst := some 33, op := Op.pick (Operand.tmp 21) (Operand.const (Value.bool true)) (Operand.tmp 32), type := 4, pos := "cell.go:96", after := #[{ on := 9, ground := Ground.data }, { on := 20, ground := Ground.data }], guard := none }) (v := ?_) rfl (by kernel_rfl) (by kernel_rfl) (by kernel_rfl) (fun _ _ _ h => h) (Or.inl ⟨by rfl, ?_⟩) hHeld ?_
          rotate_left
          · (intro W1 hSw; (try dsimp only at hSw); go_simp; first | done | (with_reducible rfl))
          try simp only [Act.put, List.setIfInBounds_toArray, List.set_cons_zero, List.set_cons_succ]
          refine wpAnyH_take (i := 22) (oi := { dst := some 4, op := Op.assign (Operand.tmp 33), type := 4, pos := "cell.go:96", after := #[{ on := 21, ground := Ground.data }, { on := 19, ground := Ground.chain }, { on := 0, ground := Ground.phase }, { on := 1, ground := Ground.phase }, { on := 2, ground := Ground.phase }, { on := 3, ground := Ground.phase }, { on := 4, ground := Ground.phase }, { on := 5, ground := Ground.phase }, { on := 6, ground := Ground.phase }, { on := 7, ground := Ground.phase }, { on := 8, ground := Ground.phase }, { on := 9, ground := Ground.phase }, { on := 10, ground := Ground.phase }, { on := 11, ground := Ground.phase }, { on := 12, ground := Ground.phase }, { on := 13, ground := Ground.phase }, { on := 14, ground := Ground.phase }, { on := 15, ground := Ground.phase }, { on := 16, ground := Ground.phase }, { on := 17, ground := Ground.phase }, { on := 18, ground := Ground.phase }, { on := 19, ground := Ground.phase }, { on := 20, ground := Ground.phase }, { on := 21, ground := Ground.phase }], guard := none }) (v := ?_) rfl (by kernel_rfl) (by kernel_rfl) (by kernel_rfl) (fun _ _ _ h => h) (Or.inl ⟨by rfl, ?_⟩) hHeld ?_
          rotate_left
          · (intro W1 hSw; (try dsimp only at hSw); go_simp; first | done | (with_reducible rfl))
          try simp only [Act.put, List.setIfInBounds_toArray, List.set_cons_zero, List.set_cons_succ]
          refine wpAnyH_done (by kernel_rfl) ?_ _
          go_wp2
          go_ret
          exact ⟨by simp [HGN.out], hb2.trans (((below_drewN w' 1).trans (hb.mono (by simp))).mono (by omega))⟩
        · cases s
          all_goals
            go_wp2
            refine wp_region_held_drew (S := fun w1 => w1.cell? ⟨T2, 0, none⟩ = some (.pointer (some ⟨X, 0, none⟩)) ∧ w1.cell? ⟨T5, 0, none⟩ = some (.func (.func 78) #[] #[.pointer (some ⟨T3, 0, none⟩)]) ∧ w1.cell? ⟨X, 0, none⟩ = some (.slice (some ⟨g, 0, none⟩) n cap) ∧ w1.cell? ⟨w.heap.size, 0, none⟩ = some (.int .i64 y.who) ∧ w1.cell? ⟨w.heap.size, 1, none⟩ = some (.int .i64 y.v) ∧ w1.cell? ⟨w.heap.size, 2, none⟩ = some (.bool true)) (by kernel_rfl) ⟨q2, q5, qx, p0, p1, p2⟩ (fun hHeld => ?_)
            refine wpAnyH_take (i := 0) (oi := { dst := some 12, op := Op.load 54 (Operand.tmp 1), type := 54, pos := "cell.go:96", after := #[], guard := none }) (v := ?_) rfl (by kernel_rfl) (by kernel_rfl) (by kernel_rfl) (fun _ _ _ h => h) (Or.inl ⟨by rfl, ?_⟩) hHeld ?_
            rotate_left
            · (intro W1 hSw; (try dsimp only at hSw); go_simp; first | done | (with_reducible rfl))
            try simp only [Act.put, List.setIfInBounds_toArray, List.set_cons_zero, List.set_cons_succ]
            refine wpAnyH_take (i := 1) (oi := { dst := some 13, op := Op.nilCheck (Operand.tmp 12), type := 0, pos := "cell.go:96", after := #[{ on := 0, ground := Ground.data }], guard := none }) (v := ?_) rfl (by kernel_rfl) (by kernel_rfl) (by kernel_rfl) (fun _ _ _ h => h) (Or.inl ⟨by rfl, ?_⟩) hHeld ?_
            rotate_left
            · (intro W1 hSw; (try dsimp only at hSw); go_simp; first | done | (with_reducible rfl))
            try simp only [Act.put, List.setIfInBounds_toArray, List.set_cons_zero, List.set_cons_succ]
            refine wpAnyH_take (i := 2) (oi := { dst := some 14, op := Op.fieldAddr 93 (Operand.tmp 13) 0, type := 0, pos := "cell.go:96", after := #[{ on := 1, ground := Ground.data }], guard := none }) (v := ?_) rfl (by kernel_rfl) (by kernel_rfl) (by kernel_rfl) (fun _ _ _ h => h) (Or.inl ⟨by rfl, ?_⟩) hHeld ?_
            rotate_left
            · (intro W1 hSw; (try dsimp only at hSw); go_simp; first | done | (with_reducible rfl))
            try simp only [Act.put, List.setIfInBounds_toArray, List.set_cons_zero, List.set_cons_succ]
            refine wpAnyH_take (i := 3) (oi := { dst := some 15, op := Op.load 91 (Operand.tmp 14), type := 91, pos := "cell.go:96", after := #[{ on := 2, ground := Ground.data }], guard := none }) (v := ?_) rfl (by kernel_rfl) (by kernel_rfl) (by kernel_rfl) (fun _ _ _ h => h) (Or.inl ⟨by rfl, ?_⟩) hHeld ?_
            rotate_left
            · (intro W1 hSw; (try dsimp only at hSw); go_simp; first | done | (with_reducible rfl))
            try simp only [Act.put, List.setIfInBounds_toArray, List.set_cons_zero, List.set_cons_succ]
            refine wpAnyH_take (i := 4) (oi := { dst := some 16, op := Op.move (Operand.tmp 5), type := 3, pos := "cell.go:96", after := #[], guard := none }) (v := ?_) rfl (by kernel_rfl) (by kernel_rfl) (by kernel_rfl) (fun _ _ _ h => h) (Or.inl ⟨by rfl, ?_⟩) hHeld ?_
            rotate_left
            · (intro W1 hSw; (try dsimp only at hSw); go_simp; first | done | (with_reducible rfl))
            try simp only [Act.put, List.setIfInBounds_toArray, List.set_cons_zero, List.set_cons_succ]
            refine wpAnyH_take (i := 5) (oi := { dst := some 17, op := Op.binOp BinOp.add 3 (Operand.tmp 16) (Operand.const (Value.int IntKind.i64 1)) 3, type := 3, pos := "cell.go:96", after := #[{ on := 4, ground := Ground.data }], guard := none }) (v := ?_) rfl (by kernel_rfl) (by kernel_rfl) (by kernel_rfl) (fun _ _ _ h => h) (Or.inl ⟨by rfl, ?_⟩) hHeld ?_
            rotate_left
            · (intro W1 hSw; (try dsimp only at hSw); go_simp; first | done | (with_reducible rfl))
            try simp only [Act.put, List.setIfInBounds_toArray, List.set_cons_zero, List.set_cons_succ]
            refine wpAnyH_take (i := 6) (oi := { dst := some 18, op := Op.slice 91 (Operand.tmp 15) (some (Operand.tmp 17)) none none, type := 91, pos := "cell.go:96", after := #[{ on := 3, ground := Ground.data }, { on := 5, ground := Ground.data }], guard := none }) (v := ?_) rfl (by kernel_rfl) (by kernel_rfl) (by kernel_rfl) (fun _ _ _ h => h) (Or.inl ⟨by rfl, ?_⟩) hHeld ?_
            rotate_left
            · (intro W1 hSw; (try dsimp only at hSw); go_simp; first | done | (with_reducible rfl))
            try simp only [Act.put, List.setIfInBounds_toArray, List.set_cons_zero, List.set_cons_succ]
            refine wpAnyH_take (i := 7) (oi := { dst := some 19, op := Op.load 106 (Operand.tmp 2), type := 106, pos := "cell.go:96", after := #[], guard := none }) (v := ?_) rfl (by kernel_rfl) (by kernel_rfl) (by kernel_rfl) (fun _ _ _ h => h) (Or.inl ⟨by rfl, ?_⟩) hHeld ?_
            rotate_left
            · (intro W1 hSw; (try dsimp only at hSw); go_simp; first | done | (with_reducible rfl))
            try simp only [Act.put, List.setIfInBounds_toArray, List.set_cons_zero, List.set_cons_succ]
            refine wpAnyH_ready (rs := [8]) (by kernel_rfl) (by simp) ?_
            refine AllReadyH.cons (o := { dst := some 20, op := Op.call { callee := Callee.value (Operand.func 82), args := #[Operand.tmp 18, Operand.tmp 19], argTypes := #[91, 106] }, type := 4, pos := "cell.go:96", after := #[{ on := 6, ground := Ground.data }, { on := 7, ground := Ground.data }], guard := none }) rfl (fun K hK => ?_) AllReadyH.nil
            go_simp
            (go_at_call 82; refine (HCON.out _ (below_drewN w' 1)).mono ?_; rintro e wa ⟨rfl, hb⟩)
            refine hK.out _ _ (⟨(hb.cell (p := ⟨T2, 0, none⟩) (by simp; omega)).trans q2, (hb.cell (p := ⟨T5, 0, none⟩) (by simp; omega)).trans q5, (hb.cell (p := ⟨X, 0, none⟩) (by simp; omega)).trans qx, (hb.cell (p := ⟨w.heap.size, 0, none⟩) (by simp; omega)).trans p0, (hb.cell (p := ⟨w.heap.size, 1, none⟩) (by simp; omega)).trans p1, (hb.cell (p := ⟨w.heap.size, 2, none⟩) (by simp; omega)).trans p2⟩) (fun hHeld => ?_)
            clear hK K
            try simp only [Act.put, List.setIfInBounds_toArray, List.set_cons_zero, List.set_cons_succ]
            have hi0 := HI0.out
            refine wpAnyH_take (i := 9) (oi := { dst := some 21, op := Op.move (Operand.tmp 20), type := 4, pos := "cell.go:96", after := #[{ on := 8, ground := Ground.data }, { on := 8, ground := Ground.chain }], guard := none }) (v := ?_) rfl (by kernel_rfl) (by kernel_rfl) (by kernel_rfl) (fun _ _ _ h => h) (Or.inl ⟨by rfl, ?_⟩) hHeld ?_
            rotate_left
            · (intro W1 hSw; (try dsimp only at hSw); go_simp; first | done | (with_reducible rfl))
            try simp only [Act.put, List.setIfInBounds_toArray, List.set_cons_zero, List.set_cons_succ]
            refine wpAnyH_take (i := 10) (oi := { dst := some 22, op := Op.move (Operand.tmp 5), type := 3, pos := "cell.go:96", after := #[{ on := 9, ground := Ground.guard }], guard := some (9, false) }) (v := ?_) rfl (by kernel_rfl) (by kernel_rfl) (by kernel_rfl) (fun _ _ _ h => h) (Or.inl ⟨by rfl, ?_⟩) hHeld ?_
            rotate_left
            · (intro W1 hSw; (try dsimp only at hSw); go_simp; first | done | (with_reducible rfl))
            try simp only [Act.put, List.setIfInBounds_toArray, List.set_cons_zero, List.set_cons_succ]
            refine wpAnyH_take (i := 11) (oi := { dst := some 23, op := Op.binOp BinOp.eql 3 (Operand.tmp 22) (Operand.const (Value.int IntKind.i64 0)) 3, type := 4, pos := "cell.go:96", after := #[{ on := 10, ground := Ground.data }, { on := 9, ground := Ground.guard }], guard := some (9, false) }) (v := ?_) rfl (by kernel_rfl) (by kernel_rfl) (by kernel_rfl) (fun _ _ _ h => h) (Or.inl ⟨by rfl, ?_⟩) hHeld ?_
            rotate_left
            · (intro W1 hSw; (try dsimp only at hSw); go_simp; first | done | (with_reducible rfl))
            try simp only [Act.put, List.setIfInBounds_toArray, List.set_cons_zero, List.set_cons_succ]
            refine wpAnyH_take (i := 12) (oi := { dst := some 24, op := Op.move (Operand.tmp 23), type := 4, pos := "cell.go:96", after := #[{ on := 11, ground := Ground.data }, { on := 9, ground := Ground.chain }, { on := 9, ground := Ground.guard }], guard := some (9, false) }) (v := ?_) rfl (by kernel_rfl) (by kernel_rfl) (by kernel_rfl) (fun _ _ _ h => h) (Or.inl ⟨by rfl, ?_⟩) hHeld ?_
            rotate_left
            · (intro W1 hSw; (try dsimp only at hSw); go_simp; first | done | (with_reducible rfl))
            try simp only [Act.put, List.setIfInBounds_toArray, List.set_cons_zero, List.set_cons_succ]
            refine wpAnyH_take (i := 13) (oi := { dst := some 25, op := Op.fieldAddr 95 (Operand.tmp 3) 2, type := 0, pos := "cell.go:96", after := #[{ on := 12, ground := Ground.guard }], guard := some (12, true) }) (v := ?_) rfl (by kernel_rfl) (by kernel_rfl) (by kernel_rfl) (fun _ _ _ h => h) (Or.inl ⟨by rfl, ?_⟩) hHeld ?_
            rotate_left
            · (intro W1 hSw; (try dsimp only at hSw); go_simp; first | done | (with_reducible rfl))
            try simp only [Act.put, List.setIfInBounds_toArray, List.set_cons_zero, List.set_cons_succ]
            refine wpAnyH_take (i := 14) (oi := { dst := some 26, op := Op.load 4 (Operand.tmp 25), type := 4, pos := "cell.go:96", after := #[{ on := 13, ground := Ground.data }, { on := 12, ground := Ground.guard }], guard := some (12, true) }) (v := ?_) rfl (by kernel_rfl) (by kernel_rfl) (by kernel_rfl) (fun _ _ _ h => h) (Or.inl ⟨by rfl, ?_⟩) hHeld ?_
            rotate_left
            · (intro W1 hSw; (try dsimp only at hSw); go_simp; first | done | (with_reducible rfl))
            try simp only [Act.put, List.setIfInBounds_toArray, List.set_cons_zero, List.set_cons_succ]
            refine wpAnyH_take (i := 15) (oi := { dst := some 27, op := Op.pick (Operand.tmp 24) (Operand.tmp 26) (Operand.const (Value.bool false)), type := 4, pos := "cell.go:96", after := #[{ on := 12, ground := Ground.data }, { on := 14, ground := Ground.data }, { on := 9, ground := Ground.guard }], guard := some (9, false) }) (v := ?_) rfl (by kernel_rfl) (by kernel_rfl) (by kernel_rfl) (fun _ _ _ h => h) (Or.inl ⟨by rfl, ?_⟩) hHeld ?_
            rotate_left
            · (intro W1 hSw; (try dsimp only at hSw); go_simp; first | done | (with_reducible rfl))
            try simp only [Act.put, List.setIfInBounds_toArray, List.set_cons_zero, List.set_cons_succ]
            refine wpAnyH_take (i := 16) (oi := { dst := some 28, op := Op.move (Operand.tmp 27), type := 4, pos := "cell.go:96", after := #[{ on := 15, ground := Ground.data }, { on := 12, ground := Ground.chain }, { on := 9, ground := Ground.guard }], guard := some (9, false) }) (v := ?_) rfl (by kernel_rfl) (by kernel_rfl) (by kernel_rfl) (fun _ _ _ h => h) (Or.inl ⟨by rfl, ?_⟩) hHeld ?_
            rotate_left
            · (intro W1 hSw; (try dsimp only at hSw); go_simp; first | done | (with_reducible rfl))
            try simp only [Act.put, List.setIfInBounds_toArray, List.set_cons_zero, List.set_cons_succ]
            refine wpAnyH_take (i := 17) (oi := { dst := some 29, op := Op.load 106 (Operand.tmp 2), type := 106, pos := "cell.go:96", after := #[{ on := 16, ground := Ground.guard }], guard := some (16, true) }) (v := ?_) rfl (by kernel_rfl) (by kernel_rfl) (by kernel_rfl) (fun _ _ _ h => h) (Or.inl ⟨by rfl, ?_⟩) hHeld ?_
            rotate_left
            · (intro W1 hSw; (try dsimp only at hSw); go_simp; first | done | (with_reducible rfl))
            try simp only [Act.put, List.setIfInBounds_toArray, List.set_cons_zero, List.set_cons_succ]
            refine wpAnyH_take (i := 18) (oi := { dst := some 30, op := Op.load 95 (Operand.tmp 3), type := 95, pos := "cell.go:96", after := #[{ on := 16, ground := Ground.guard }], guard := some (16, true) }) (v := ?_) rfl (by kernel_rfl) (by kernel_rfl) (by kernel_rfl) (fun _ _ _ h => h) (Or.inl ⟨by rfl, ?_⟩) hHeld ?_
            rotate_left
            · (intro W1 hSw; (try dsimp only at hSw); go_simp; first | done | (with_reducible rfl))
            try simp only [Act.put, List.setIfInBounds_toArray, List.set_cons_zero, List.set_cons_succ]
            refine wpAnyH_ready (rs := [19]) (by kernel_rfl) (by simp) ?_
            refine AllReadyH.cons (o := { dst := some 31, op := Op.call { callee := Callee.value (Operand.tmp 29), args := #[Operand.tmp 30], argTypes := #[95] }, type := 4, pos := "cell.go:96", after := #[{ on := 17, ground := Ground.data }, { on := 18, ground := Ground.data }, { on := 16, ground := Ground.chain }, { on := 16, ground := Ground.guard }], guard := some (16, true) }) rfl (fun K hK => ?_) AllReadyH.nil
            go_simp
            (go_at_call 78; refine (HSET.out _ ((below_drewN w' 1).trans (hb.mono (by simp)))).mono ?_; rintro e wb ⟨rfl, hbb⟩)
            refine hK.out _ _ (⟨((hbb.cell (p := ⟨T2, 0, none⟩) (by have := hb.size; simp at this ⊢; omega)).trans (hb.cell (p := ⟨T2, 0, none⟩) (by simp; omega))).trans q2, ((hbb.cell (p := ⟨T5, 0, none⟩) (by have := hb.size; simp at this ⊢; omega)).trans (hb.cell (p := ⟨T5, 0, none⟩) (by simp; omega))).trans q5, ((hbb.cell (p := ⟨X, 0, none⟩) (by have := hb.size; simp at this ⊢; omega)).trans (hb.cell (p := ⟨X, 0, none⟩) (by simp; omega))).trans qx, ((hbb.cell (p := ⟨w.heap.size, 0, none⟩) (by have := hb.size; simp at this ⊢; omega)).trans (hb.cell (p := ⟨w.heap.size, 0, none⟩) (by simp; omega))).trans p0, ((hbb.cell (p := ⟨w.heap.size, 1, none⟩) (by have := hb.size; simp at this ⊢; omega)).trans (hb.cell (p := ⟨w.heap.size, 1, none⟩) (by simp; omega))).trans p1, ((hbb.cell (p := ⟨w.heap.size, 2, none⟩) (by have := hb.size; simp at this ⊢; omega)).trans (hb.cell (p := ⟨w.heap.size, 2, none⟩) (by simp; omega))).trans p2⟩) (fun hHeld => ?_)
            clear hK K
            try simp only [Act.put, List.setIfInBounds_toArray, List.set_cons_zero, List.set_cons_succ]
            refine wpAnyH_take (i := 20) (oi := { dst := some 32, op := Op.pick (Operand.tmp 28) (Operand.tmp 31) (Operand.const (Value.bool false)), type := 4, pos := "cell.go:96", after := #[{ on := 16, ground := Ground.data }, { on := 19, ground := Ground.data }, { on := 9, ground := Ground.guard }], guard := some (9, false) }) (v := ?_) rfl (by kernel_rfl) (by kernel_rfl) (by kernel_rfl) (fun _ _ _ h => h) (Or.inl ⟨by rfl, ?_⟩) hHeld ?_
            rotate_left
            · (intro W1 hSw; (try dsimp only at hSw); go_simp; first | done | (with_reducible rfl))
            try simp only [Act.put, List.setIfInBounds_toArray, List.set_cons_zero, List.set_cons_succ]
            refine wpAnyH_take (i := 21) (oi := { dst := some 33, op := Op.pick (Operand.tmp 21) (Operand.const (Value.bool true)) (Operand.tmp 32), type := 4, pos := "cell.go:96", after := #[{ on := 9, ground := Ground.data }, { on := 20, ground := Ground.data }], guard := none }) (v := ?_) rfl (by kernel_rfl) (by kernel_rfl) (by kernel_rfl) (fun _ _ _ h => h) (Or.inl ⟨by rfl, ?_⟩) hHeld ?_
            rotate_left
            · (intro W1 hSw; (try dsimp only at hSw); go_simp; first | done | (with_reducible rfl))
            try simp only [Act.put, List.setIfInBounds_toArray, List.set_cons_zero, List.set_cons_succ]
            refine wpAnyH_take (i := 22) (oi := { dst := some 4, op := Op.assign (Operand.tmp 33), type := 4, pos := "cell.go:96", after := #[{ on := 21, ground := Ground.data }, { on := 19, ground := Ground.chain }, { on := 0, ground := Ground.phase }, { on := 1, ground := Ground.phase }, { on := 2, ground := Ground.phase }, { on := 3, ground := Ground.phase }, { on := 4, ground := Ground.phase }, { on := 5, ground := Ground.phase }, { on := 6, ground := Ground.phase }, { on := 7, ground := Ground.phase }, { on := 8, ground := Ground.phase }, { on := 9, ground := Ground.phase }, { on := 10, ground := Ground.phase }, { on := 11, ground := Ground.phase }, { on := 12, ground := Ground.phase }, { on := 13, ground := Ground.phase }, { on := 14, ground := Ground.phase }, { on := 15, ground := Ground.phase }, { on := 16, ground := Ground.phase }, { on := 17, ground := Ground.phase }, { on := 18, ground := Ground.phase }, { on := 19, ground := Ground.phase }, { on := 20, ground := Ground.phase }, { on := 21, ground := Ground.phase }], guard := none }) (v := ?_) rfl (by kernel_rfl) (by kernel_rfl) (by kernel_rfl) (fun _ _ _ h => h) (Or.inl ⟨by rfl, ?_⟩) hHeld ?_
            rotate_left
            · (intro W1 hSw; (try dsimp only at hSw); go_simp; first | done | (with_reducible rfl))
            try simp only [Act.put, List.setIfInBounds_toArray, List.set_cons_zero, List.set_cons_succ]
            refine wpAnyH_done (by kernel_rfl) ?_ _
            go_wp2
            go_ret
            exact ⟨by simp [HGN.out, HI0.out], hb2.trans (((below_drewN w' 1).trans ((hb.mono (by simp)).trans (hbb.mono (by have := hb.size; simp at this; omega)))).mono (by omega))⟩
      · go_wp2
        refine wp_region_held_drew (S := fun w1 => w1.cell? ⟨T2, 0, none⟩ = some (.pointer (some ⟨X, 0, none⟩)) ∧ w1.cell? ⟨T5, 0, none⟩ = some (.func (.func 78) #[] #[.pointer (some ⟨T3, 0, none⟩)]) ∧ w1.cell? ⟨X, 0, none⟩ = some (.slice (some ⟨g, 0, none⟩) n cap) ∧ w1.cell? ⟨w.heap.size, 0, none⟩ = some (.int .i64 y.who) ∧ w1.cell? ⟨w.heap.size, 1, none⟩ = some (.int .i64 y.v) ∧ w1.cell? ⟨w.heap.size, 2, none⟩ = some (.bool y.gone)) (by kernel_rfl) ⟨q2, q5, qx, p0, p1, p2⟩ (fun hHeld => ?_)
        refine wpAnyH_take (i := 0) (oi := { dst := some 12, op := Op.load 54 (Operand.tmp 1), type := 54, pos := "cell.go:96", after := #[], guard := none }) (v := ?_) rfl (by kernel_rfl) (by kernel_rfl) (by kernel_rfl) (fun _ _ _ h => h) (Or.inl ⟨by rfl, ?_⟩) hHeld ?_
        rotate_left
        · (intro W1 hSw; (try dsimp only at hSw); go_simp; first | done | (with_reducible rfl))
        try simp only [Act.put, List.setIfInBounds_toArray, List.set_cons_zero, List.set_cons_succ]
        refine wpAnyH_take (i := 1) (oi := { dst := some 13, op := Op.nilCheck (Operand.tmp 12), type := 0, pos := "cell.go:96", after := #[{ on := 0, ground := Ground.data }], guard := none }) (v := ?_) rfl (by kernel_rfl) (by kernel_rfl) (by kernel_rfl) (fun _ _ _ h => h) (Or.inl ⟨by rfl, ?_⟩) hHeld ?_
        rotate_left
        · (intro W1 hSw; (try dsimp only at hSw); go_simp; first | done | (with_reducible rfl))
        try simp only [Act.put, List.setIfInBounds_toArray, List.set_cons_zero, List.set_cons_succ]
        refine wpAnyH_take (i := 2) (oi := { dst := some 14, op := Op.fieldAddr 93 (Operand.tmp 13) 0, type := 0, pos := "cell.go:96", after := #[{ on := 1, ground := Ground.data }], guard := none }) (v := ?_) rfl (by kernel_rfl) (by kernel_rfl) (by kernel_rfl) (fun _ _ _ h => h) (Or.inl ⟨by rfl, ?_⟩) hHeld ?_
        rotate_left
        · (intro W1 hSw; (try dsimp only at hSw); go_simp; first | done | (with_reducible rfl))
        try simp only [Act.put, List.setIfInBounds_toArray, List.set_cons_zero, List.set_cons_succ]
        refine wpAnyH_take (i := 3) (oi := { dst := some 15, op := Op.load 91 (Operand.tmp 14), type := 91, pos := "cell.go:96", after := #[{ on := 2, ground := Ground.data }], guard := none }) (v := ?_) rfl (by kernel_rfl) (by kernel_rfl) (by kernel_rfl) (fun _ _ _ h => h) (Or.inl ⟨by rfl, ?_⟩) hHeld ?_
        rotate_left
        · (intro W1 hSw; (try dsimp only at hSw); go_simp; first | done | (with_reducible rfl))
        try simp only [Act.put, List.setIfInBounds_toArray, List.set_cons_zero, List.set_cons_succ]
        refine wpAnyH_take (i := 4) (oi := { dst := some 16, op := Op.move (Operand.tmp 5), type := 3, pos := "cell.go:96", after := #[], guard := none }) (v := ?_) rfl (by kernel_rfl) (by kernel_rfl) (by kernel_rfl) (fun _ _ _ h => h) (Or.inl ⟨by rfl, ?_⟩) hHeld ?_
        rotate_left
        · (intro W1 hSw; (try dsimp only at hSw); go_simp; first | done | (with_reducible rfl))
        try simp only [Act.put, List.setIfInBounds_toArray, List.set_cons_zero, List.set_cons_succ]
        refine wpAnyH_take (i := 5) (oi := { dst := some 17, op := Op.binOp BinOp.add 3 (Operand.tmp 16) (Operand.const (Value.int IntKind.i64 1)) 3, type := 3, pos := "cell.go:96", after := #[{ on := 4, ground := Ground.data }], guard := none }) (v := ?_) rfl (by kernel_rfl) (by kernel_rfl) (by kernel_rfl) (fun _ _ _ h => h) (Or.inl ⟨by rfl, ?_⟩) hHeld ?_
        rotate_left
        · (intro W1 hSw; (try dsimp only at hSw); go_simp; first | done | (with_reducible rfl))
        try simp only [Act.put, List.setIfInBounds_toArray, List.set_cons_zero, List.set_cons_succ]
        refine wpAnyH_take (i := 6) (oi := { dst := some 18, op := Op.slice 91 (Operand.tmp 15) (some (Operand.tmp 17)) none none, type := 91, pos := "cell.go:96", after := #[{ on := 3, ground := Ground.data }, { on := 5, ground := Ground.data }], guard := none }) (v := ?_) rfl (by kernel_rfl) (by kernel_rfl) (by kernel_rfl) (fun _ _ _ h => h) (Or.inl ⟨by rfl, ?_⟩) hHeld ?_
        rotate_left
        · (intro W1 hSw; (try dsimp only at hSw); go_simp; first | done | (with_reducible rfl))
        try simp only [Act.put, List.setIfInBounds_toArray, List.set_cons_zero, List.set_cons_succ]
        refine wpAnyH_take (i := 7) (oi := { dst := some 19, op := Op.load 106 (Operand.tmp 2), type := 106, pos := "cell.go:96", after := #[], guard := none }) (v := ?_) rfl (by kernel_rfl) (by kernel_rfl) (by kernel_rfl) (fun _ _ _ h => h) (Or.inl ⟨by rfl, ?_⟩) hHeld ?_
        rotate_left
        · (intro W1 hSw; (try dsimp only at hSw); go_simp; first | done | (with_reducible rfl))
        try simp only [Act.put, List.setIfInBounds_toArray, List.set_cons_zero, List.set_cons_succ]
        refine wpAnyH_ready (rs := [8]) (by kernel_rfl) (by simp) ?_
        refine AllReadyH.cons (o := { dst := some 20, op := Op.call { callee := Callee.value (Operand.func 82), args := #[Operand.tmp 18, Operand.tmp 19], argTypes := #[91, 106] }, type := 4, pos := "cell.go:96", after := #[{ on := 6, ground := Ground.data }, { on := 7, ground := Ground.data }], guard := none }) rfl (fun K hK => ?_) AllReadyH.nil
        go_simp
        (go_at_call 82; refine (HCON.out _ (below_drewN w' 1)).mono ?_; rintro e wa ⟨rfl, hb⟩)
        refine hK.out _ _ (⟨(hb.cell (p := ⟨T2, 0, none⟩) (by simp; omega)).trans q2, (hb.cell (p := ⟨T5, 0, none⟩) (by simp; omega)).trans q5, (hb.cell (p := ⟨X, 0, none⟩) (by simp; omega)).trans qx, (hb.cell (p := ⟨w.heap.size, 0, none⟩) (by simp; omega)).trans p0, (hb.cell (p := ⟨w.heap.size, 1, none⟩) (by simp; omega)).trans p1, (hb.cell (p := ⟨w.heap.size, 2, none⟩) (by simp; omega)).trans p2⟩) (fun hHeld => ?_)
        clear hK K
        try simp only [Act.put, List.setIfInBounds_toArray, List.set_cons_zero, List.set_cons_succ]
        have hi0 := HI0.out
        have hi1 : ((i : Int) == 0) = false := by simp; exact hi0
        refine wpAnyH_take (i := 9) (oi := { dst := some 21, op := Op.move (Operand.tmp 20), type := 4, pos := "cell.go:96", after := #[{ on := 8, ground := Ground.data }, { on := 8, ground := Ground.chain }], guard := none }) (v := ?_) rfl (by kernel_rfl) (by kernel_rfl) (by kernel_rfl) (fun _ _ _ h => h) (Or.inl ⟨by rfl, ?_⟩) hHeld ?_
        rotate_left
        · (intro W1 hSw; (try dsimp only at hSw); go_simp; first | done | (with_reducible rfl))
        try simp only [Act.put, List.setIfInBounds_toArray, List.set_cons_zero, List.set_cons_succ]
        refine wpAnyH_take (i := 10) (oi := { dst := some 22, op := Op.move (Operand.tmp 5), type := 3, pos := "cell.go:96", after := #[{ on := 9, ground := Ground.guard }], guard := some (9, false) }) (v := ?_) rfl (by kernel_rfl) (by kernel_rfl) (by kernel_rfl) (fun _ _ _ h => h) (Or.inl ⟨by rfl, ?_⟩) hHeld ?_
        rotate_left
        · (intro W1 hSw; (try dsimp only at hSw); go_simp; first | done | (with_reducible rfl))
        try simp only [Act.put, List.setIfInBounds_toArray, List.set_cons_zero, List.set_cons_succ]
        refine wpAnyH_take (i := 11) (oi := { dst := some 23, op := Op.binOp BinOp.eql 3 (Operand.tmp 22) (Operand.const (Value.int IntKind.i64 0)) 3, type := 4, pos := "cell.go:96", after := #[{ on := 10, ground := Ground.data }, { on := 9, ground := Ground.guard }], guard := some (9, false) }) (v := ?_) rfl (by kernel_rfl) (by kernel_rfl) (by kernel_rfl) (fun _ _ _ h => h) (Or.inl ⟨by rfl, ?_⟩) hHeld ?_
        rotate_left
        · (intro W1 hSw; (try dsimp only at hSw); go_simp; first | done | (with_reducible rfl))
        try simp only [Act.put, List.setIfInBounds_toArray, List.set_cons_zero, List.set_cons_succ]
        refine wpAnyH_take (i := 12) (oi := { dst := some 24, op := Op.move (Operand.tmp 23), type := 4, pos := "cell.go:96", after := #[{ on := 11, ground := Ground.data }, { on := 9, ground := Ground.chain }, { on := 9, ground := Ground.guard }], guard := some (9, false) }) (v := ?_) rfl (by kernel_rfl) (by kernel_rfl) (by kernel_rfl) (fun _ _ _ h => h) (Or.inl ⟨by rfl, ?_⟩) hHeld ?_
        rotate_left
        · (intro W1 hSw; (try dsimp only at hSw); go_simp; first | done | (with_reducible rfl))
        try simp only [Act.put, List.setIfInBounds_toArray, List.set_cons_zero, List.set_cons_succ]
        refine wpAnyH_take (i := 13) (oi := { dst := some 25, op := Op.fieldAddr 95 (Operand.tmp 3) 2, type := 0, pos := "cell.go:96", after := #[{ on := 12, ground := Ground.guard }], guard := some (12, true) }) (v := undef) rfl (by kernel_rfl) (by kernel_rfl) (by kernel_rfl) (fun _ _ _ h => h) (Or.inr ⟨by rfl, rfl⟩) hHeld ?_
        try simp only [Act.put, List.setIfInBounds_toArray, List.set_cons_zero, List.set_cons_succ]
        refine wpAnyH_take (i := 14) (oi := { dst := some 26, op := Op.load 4 (Operand.tmp 25), type := 4, pos := "cell.go:96", after := #[{ on := 13, ground := Ground.data }, { on := 12, ground := Ground.guard }], guard := some (12, true) }) (v := undef) rfl (by kernel_rfl) (by kernel_rfl) (by kernel_rfl) (fun _ _ _ h => h) (Or.inr ⟨by rfl, rfl⟩) hHeld ?_
        try simp only [Act.put, List.setIfInBounds_toArray, List.set_cons_zero, List.set_cons_succ]
        refine wpAnyH_take (i := 15) (oi := { dst := some 27, op := Op.pick (Operand.tmp 24) (Operand.tmp 26) (Operand.const (Value.bool false)), type := 4, pos := "cell.go:96", after := #[{ on := 12, ground := Ground.data }, { on := 14, ground := Ground.data }, { on := 9, ground := Ground.guard }], guard := some (9, false) }) (v := ?_) rfl (by kernel_rfl) (by kernel_rfl) (by kernel_rfl) (fun _ _ _ h => h) (Or.inl ⟨by rfl, ?_⟩) hHeld ?_
        rotate_left
        · (intro W1 hSw; (try dsimp only at hSw); go_simp; first | done | (with_reducible rfl))
        try simp only [Act.put, List.setIfInBounds_toArray, List.set_cons_zero, List.set_cons_succ]
        refine wpAnyH_take (i := 16) (oi := { dst := some 28, op := Op.move (Operand.tmp 27), type := 4, pos := "cell.go:96", after := #[{ on := 15, ground := Ground.data }, { on := 12, ground := Ground.chain }, { on := 9, ground := Ground.guard }], guard := some (9, false) }) (v := ?_) rfl (by kernel_rfl) (by kernel_rfl) (by kernel_rfl) (fun _ _ _ h => h) (Or.inl ⟨by rfl, ?_⟩) hHeld ?_
        rotate_left
        · (intro W1 hSw; (try dsimp only at hSw); go_simp; first | done | (with_reducible rfl))
        try simp only [Act.put, List.setIfInBounds_toArray, List.set_cons_zero, List.set_cons_succ]
        refine wpAnyH_take (i := 17) (oi := { dst := some 29, op := Op.load 106 (Operand.tmp 2), type := 106, pos := "cell.go:96", after := #[{ on := 16, ground := Ground.guard }], guard := some (16, true) }) (v := undef) rfl (by kernel_rfl) (by kernel_rfl) (by kernel_rfl) (fun _ _ _ h => h) (Or.inr ⟨by rfl, rfl⟩) hHeld ?_
        try simp only [Act.put, List.setIfInBounds_toArray, List.set_cons_zero, List.set_cons_succ]
        refine wpAnyH_take (i := 18) (oi := { dst := some 30, op := Op.load 95 (Operand.tmp 3), type := 95, pos := "cell.go:96", after := #[{ on := 16, ground := Ground.guard }], guard := some (16, true) }) (v := undef) rfl (by kernel_rfl) (by kernel_rfl) (by kernel_rfl) (fun _ _ _ h => h) (Or.inr ⟨by rfl, rfl⟩) hHeld ?_
        try simp only [Act.put, List.setIfInBounds_toArray, List.set_cons_zero, List.set_cons_succ]
        refine wpAnyH_take (i := 19) (oi := { dst := some 31, op := Op.call { callee := Callee.value (Operand.tmp 29), args := #[Operand.tmp 30], argTypes := #[95] }, type := 4, pos := "cell.go:96", after := #[{ on := 17, ground := Ground.data }, { on := 18, ground := Ground.data }, { on := 16, ground := Ground.chain }, { on := 16, ground := Ground.guard }], guard := some (16, true) }) (v := undef) rfl (by kernel_rfl) (by kernel_rfl) (by kernel_rfl) (fun _ _ _ h => h) (Or.inr ⟨by rfl, rfl⟩) hHeld ?_
        try simp only [Act.put, List.setIfInBounds_toArray, List.set_cons_zero, List.set_cons_succ]
        refine wpAnyH_take (i := 20) (oi := { dst := some 32, op := Op.pick (Operand.tmp 28) (Operand.tmp 31) (Operand.const (Value.bool false)), type := 4, pos := "cell.go:96", after := #[{ on := 16, ground := Ground.data }, { on := 19, ground := Ground.data }, { on := 9, ground := Ground.guard }], guard := some (9, false) }) (v := ?_) rfl (by kernel_rfl) (by kernel_rfl) (by kernel_rfl) (fun _ _ _ h => h) (Or.inl ⟨by rfl, ?_⟩) hHeld ?_
        rotate_left
        · (intro W1 hSw; (try dsimp only at hSw); go_simp; first | done | (with_reducible rfl))
        try simp only [Act.put, List.setIfInBounds_toArray, List.set_cons_zero, List.set_cons_succ]
        refine wpAnyH_take (i := 21) (oi := { dst := some 33, op := Op.pick (Operand.tmp 21) (Operand.const (Value.bool true)) (Operand.tmp 32), type := 4, pos := "cell.go:96", after := #[{ on := 9, ground := Ground.data }, { on := 20, ground := Ground.data }], guard := none }) (v := ?_) rfl (by kernel_rfl) (by kernel_rfl) (by kernel_rfl) (fun _ _ _ h => h) (Or.inl ⟨by rfl, ?_⟩) hHeld ?_
        rotate_left
        · (intro W1 hSw; (try dsimp only at hSw); go_simp; first | done | (with_reducible rfl))
        try simp only [Act.put, List.setIfInBounds_toArray, List.set_cons_zero, List.set_cons_succ]
        refine wpAnyH_take (i := 22) (oi := { dst := some 4, op := Op.assign (Operand.tmp 33), type := 4, pos := "cell.go:96", after := #[{ on := 21, ground := Ground.data }, { on := 19, ground := Ground.chain }, { on := 0, ground := Ground.phase }, { on := 1, ground := Ground.phase }, { on := 2, ground := Ground.phase }, { on := 3, ground := Ground.phase }, { on := 4, ground := Ground.phase }, { on := 5, ground := Ground.phase }, { on := 6, ground := Ground.phase }, { on := 7, ground := Ground.phase }, { on := 8, ground := Ground.phase }, { on := 9, ground := Ground.phase }, { on := 10, ground := Ground.phase }, { on := 11, ground := Ground.phase }, { on := 12, ground := Ground.phase }, { on := 13, ground := Ground.phase }, { on := 14, ground := Ground.phase }, { on := 15, ground := Ground.phase }, { on := 16, ground := Ground.phase }, { on := 17, ground := Ground.phase }, { on := 18, ground := Ground.phase }, { on := 19, ground := Ground.phase }, { on := 20, ground := Ground.phase }, { on := 21, ground := Ground.phase }], guard := none }) (v := ?_) rfl (by kernel_rfl) (by kernel_rfl) (by kernel_rfl) (fun _ _ _ h => h) (Or.inl ⟨by rfl, ?_⟩) hHeld ?_
        rotate_left
        · (intro W1 hSw; (try dsimp only at hSw); go_simp; first | done | (with_reducible rfl))
        try simp only [Act.put, List.setIfInBounds_toArray, List.set_cons_zero, List.set_cons_succ]
        refine wpAnyH_done (by kernel_rfl) ?_ _
        go_wp2
        go_ret
        exact ⟨by simp [HI0.out], hb2.trans (((below_drewN w' 1).trans (hb.mono (by simp))).mono (by omega))⟩
    · go_wp2
      refine wp_region_held_drew (S := fun w1 => w1.cell? ⟨T2, 0, none⟩ = some (.pointer (some ⟨X, 0, none⟩)) ∧ w1.cell? ⟨T5, 0, none⟩ = some (.func (.func 78) #[] #[.pointer (some ⟨T3, 0, none⟩)]) ∧ w1.cell? ⟨X, 0, none⟩ = some (.slice (some ⟨g, 0, none⟩) n cap) ∧ w1.cell? ⟨w.heap.size, 0, none⟩ = some (.int .i64 y.who) ∧ w1.cell? ⟨w.heap.size, 1, none⟩ = some (.int .i64 y.v) ∧ w1.cell? ⟨w.heap.size, 2, none⟩ = some (.bool y.gone)) (by kernel_rfl) ⟨q2, q5, qx, p0, p1, p2⟩ (fun hHeld => ?_)
      refine wpAnyH_take (i := 0) (oi := { dst := some 12, op := Op.load 54 (Operand.tmp 1), type := 54, pos := "cell.go:96", after := #[], guard := none }) (v := ?_) rfl (by kernel_rfl) (by kernel_rfl) (by kernel_rfl) (fun _ _ _ h => h) (Or.inl ⟨by rfl, ?_⟩) hHeld ?_
      rotate_left
      · (intro W1 hSw; (try dsimp only at hSw); go_simp; first | done | (with_reducible rfl))
      try simp only [Act.put, List.setIfInBounds_toArray, List.set_cons_zero, List.set_cons_succ]
      refine wpAnyH_take (i := 1) (oi := { dst := some 13, op := Op.nilCheck (Operand.tmp 12), type := 0, pos := "cell.go:96", after := #[{ on := 0, ground := Ground.data }], guard := none }) (v := ?_) rfl (by kernel_rfl) (by kernel_rfl) (by kernel_rfl) (fun _ _ _ h => h) (Or.inl ⟨by rfl, ?_⟩) hHeld ?_
      rotate_left
      · (intro W1 hSw; (try dsimp only at hSw); go_simp; first | done | (with_reducible rfl))
      try simp only [Act.put, List.setIfInBounds_toArray, List.set_cons_zero, List.set_cons_succ]
      refine wpAnyH_take (i := 2) (oi := { dst := some 14, op := Op.fieldAddr 93 (Operand.tmp 13) 0, type := 0, pos := "cell.go:96", after := #[{ on := 1, ground := Ground.data }], guard := none }) (v := ?_) rfl (by kernel_rfl) (by kernel_rfl) (by kernel_rfl) (fun _ _ _ h => h) (Or.inl ⟨by rfl, ?_⟩) hHeld ?_
      rotate_left
      · (intro W1 hSw; (try dsimp only at hSw); go_simp; first | done | (with_reducible rfl))
      try simp only [Act.put, List.setIfInBounds_toArray, List.set_cons_zero, List.set_cons_succ]
      refine wpAnyH_take (i := 3) (oi := { dst := some 15, op := Op.load 91 (Operand.tmp 14), type := 91, pos := "cell.go:96", after := #[{ on := 2, ground := Ground.data }], guard := none }) (v := ?_) rfl (by kernel_rfl) (by kernel_rfl) (by kernel_rfl) (fun _ _ _ h => h) (Or.inl ⟨by rfl, ?_⟩) hHeld ?_
      rotate_left
      · (intro W1 hSw; (try dsimp only at hSw); go_simp; first | done | (with_reducible rfl))
      try simp only [Act.put, List.setIfInBounds_toArray, List.set_cons_zero, List.set_cons_succ]
      refine wpAnyH_take (i := 4) (oi := { dst := some 16, op := Op.move (Operand.tmp 5), type := 3, pos := "cell.go:96", after := #[], guard := none }) (v := ?_) rfl (by kernel_rfl) (by kernel_rfl) (by kernel_rfl) (fun _ _ _ h => h) (Or.inl ⟨by rfl, ?_⟩) hHeld ?_
      rotate_left
      · (intro W1 hSw; (try dsimp only at hSw); go_simp; first | done | (with_reducible rfl))
      try simp only [Act.put, List.setIfInBounds_toArray, List.set_cons_zero, List.set_cons_succ]
      refine wpAnyH_take (i := 5) (oi := { dst := some 17, op := Op.binOp BinOp.add 3 (Operand.tmp 16) (Operand.const (Value.int IntKind.i64 1)) 3, type := 3, pos := "cell.go:96", after := #[{ on := 4, ground := Ground.data }], guard := none }) (v := ?_) rfl (by kernel_rfl) (by kernel_rfl) (by kernel_rfl) (fun _ _ _ h => h) (Or.inl ⟨by rfl, ?_⟩) hHeld ?_
      rotate_left
      · (intro W1 hSw; (try dsimp only at hSw); go_simp; first | done | (with_reducible rfl))
      try simp only [Act.put, List.setIfInBounds_toArray, List.set_cons_zero, List.set_cons_succ]
      refine wpAnyH_take (i := 6) (oi := { dst := some 18, op := Op.slice 91 (Operand.tmp 15) (some (Operand.tmp 17)) none none, type := 91, pos := "cell.go:96", after := #[{ on := 3, ground := Ground.data }, { on := 5, ground := Ground.data }], guard := none }) (v := ?_) rfl (by kernel_rfl) (by kernel_rfl) (by kernel_rfl) (fun _ _ _ h => h) (Or.inl ⟨by rfl, ?_⟩) hHeld ?_
      rotate_left
      · (intro W1 hSw; (try dsimp only at hSw); go_simp; first | done | (with_reducible rfl))
      try simp only [Act.put, List.setIfInBounds_toArray, List.set_cons_zero, List.set_cons_succ]
      refine wpAnyH_take (i := 7) (oi := { dst := some 19, op := Op.load 106 (Operand.tmp 2), type := 106, pos := "cell.go:96", after := #[], guard := none }) (v := ?_) rfl (by kernel_rfl) (by kernel_rfl) (by kernel_rfl) (fun _ _ _ h => h) (Or.inl ⟨by rfl, ?_⟩) hHeld ?_
      rotate_left
      · (intro W1 hSw; (try dsimp only at hSw); go_simp; first | done | (with_reducible rfl))
      try simp only [Act.put, List.setIfInBounds_toArray, List.set_cons_zero, List.set_cons_succ]
      refine wpAnyH_ready (rs := [8]) (by kernel_rfl) (by simp) ?_
      refine AllReadyH.cons (o := { dst := some 20, op := Op.call { callee := Callee.value (Operand.func 82), args := #[Operand.tmp 18, Operand.tmp 19], argTypes := #[91, 106] }, type := 4, pos := "cell.go:96", after := #[{ on := 6, ground := Ground.data }, { on := 7, ground := Ground.data }], guard := none }) rfl (fun K hK => ?_) AllReadyH.nil
      go_simp
      (go_at_call 82; refine (HCON.out _ (below_drewN w' 1)).mono ?_; rintro e wa ⟨rfl, hb⟩)
      refine hK.out _ _ (⟨(hb.cell (p := ⟨T2, 0, none⟩) (by simp; omega)).trans q2, (hb.cell (p := ⟨T5, 0, none⟩) (by simp; omega)).trans q5, (hb.cell (p := ⟨X, 0, none⟩) (by simp; omega)).trans qx, (hb.cell (p := ⟨w.heap.size, 0, none⟩) (by simp; omega)).trans p0, (hb.cell (p := ⟨w.heap.size, 1, none⟩) (by simp; omega)).trans p1, (hb.cell (p := ⟨w.heap.size, 2, none⟩) (by simp; omega)).trans p2⟩) (fun hHeld => ?_)
      clear hK K
      try simp only [Act.put, List.setIfInBounds_toArray, List.set_cons_zero, List.set_cons_succ]
      refine wpAnyH_take (i := 9) (oi := { dst := some 21, op := Op.move (Operand.tmp 20), type := 4, pos := "cell.go:96", after := #[{ on := 8, ground := Ground.data }, { on := 8, ground := Ground.chain }], guard := none }) (v := ?_) rfl (by kernel_rfl) (by kernel_rfl) (by kernel_rfl) (fun _ _ _ h => h) (Or.inl ⟨by rfl, ?_⟩) hHeld ?_
      rotate_left
      · (intro W1 hSw; (try dsimp only at hSw); go_simp; first | done | (with_reducible rfl))
      try simp only [Act.put, List.setIfInBounds_toArray, List.set_cons_zero, List.set_cons_succ]
      refine wpAnyH_take (i := 10) (oi := { dst := some 22, op := Op.move (Operand.tmp 5), type := 3, pos := "cell.go:96", after := #[{ on := 9, ground := Ground.guard }], guard := some (9, false) }) (v := undef) rfl (by kernel_rfl) (by kernel_rfl) (by kernel_rfl) (fun _ _ _ h => h) (Or.inr ⟨by rfl, rfl⟩) hHeld ?_
      try simp only [Act.put, List.setIfInBounds_toArray, List.set_cons_zero, List.set_cons_succ]
      refine wpAnyH_take (i := 11) (oi := { dst := some 23, op := Op.binOp BinOp.eql 3 (Operand.tmp 22) (Operand.const (Value.int IntKind.i64 0)) 3, type := 4, pos := "cell.go:96", after := #[{ on := 10, ground := Ground.data }, { on := 9, ground := Ground.guard }], guard := some (9, false) }) (v := undef) rfl (by kernel_rfl) (by kernel_rfl) (by kernel_rfl) (fun _ _ _ h => h) (Or.inr ⟨by rfl, rfl⟩) hHeld ?_
      try simp only [Act.put, List.setIfInBounds_toArray, List.set_cons_zero, List.set_cons_succ]
      refine wpAnyH_take (i := 12) (oi := { dst := some 24, op := Op.move (Operand.tmp 23), type := 4, pos := "cell.go:96", after := #[{ on := 11, ground := Ground.data }, { on := 9, ground := Ground.chain }, { on := 9, ground := Ground.guard }], guard := some (9, false) }) (v := undef) rfl (by kernel_rfl) (by kernel_rfl) (by kernel_rfl) (fun _ _ _ h => h) (Or.inr ⟨by rfl, rfl⟩) hHeld ?_
      try simp only [Act.put, List.setIfInBounds_toArray, List.set_cons_zero, List.set_cons_succ]
      refine wpAnyH_take (i := 13) (oi := { dst := some 25, op := Op.fieldAddr 95 (Operand.tmp 3) 2, type := 0, pos := "cell.go:96", after := #[{ on := 12, ground := Ground.guard }], guard := some (12, true) }) (v := undef) rfl (by kernel_rfl) (by kernel_rfl) (by kernel_rfl) (fun _ _ _ h => h) (Or.inr ⟨by rfl, rfl⟩) hHeld ?_
      try simp only [Act.put, List.setIfInBounds_toArray, List.set_cons_zero, List.set_cons_succ]
      refine wpAnyH_take (i := 14) (oi := { dst := some 26, op := Op.load 4 (Operand.tmp 25), type := 4, pos := "cell.go:96", after := #[{ on := 13, ground := Ground.data }, { on := 12, ground := Ground.guard }], guard := some (12, true) }) (v := undef) rfl (by kernel_rfl) (by kernel_rfl) (by kernel_rfl) (fun _ _ _ h => h) (Or.inr ⟨by rfl, rfl⟩) hHeld ?_
      try simp only [Act.put, List.setIfInBounds_toArray, List.set_cons_zero, List.set_cons_succ]
      refine wpAnyH_take (i := 15) (oi := { dst := some 27, op := Op.pick (Operand.tmp 24) (Operand.tmp 26) (Operand.const (Value.bool false)), type := 4, pos := "cell.go:96", after := #[{ on := 12, ground := Ground.data }, { on := 14, ground := Ground.data }, { on := 9, ground := Ground.guard }], guard := some (9, false) }) (v := undef) rfl (by kernel_rfl) (by kernel_rfl) (by kernel_rfl) (fun _ _ _ h => h) (Or.inr ⟨by rfl, rfl⟩) hHeld ?_
      try simp only [Act.put, List.setIfInBounds_toArray, List.set_cons_zero, List.set_cons_succ]
      refine wpAnyH_take (i := 16) (oi := { dst := some 28, op := Op.move (Operand.tmp 27), type := 4, pos := "cell.go:96", after := #[{ on := 15, ground := Ground.data }, { on := 12, ground := Ground.chain }, { on := 9, ground := Ground.guard }], guard := some (9, false) }) (v := undef) rfl (by kernel_rfl) (by kernel_rfl) (by kernel_rfl) (fun _ _ _ h => h) (Or.inr ⟨by rfl, rfl⟩) hHeld ?_
      try simp only [Act.put, List.setIfInBounds_toArray, List.set_cons_zero, List.set_cons_succ]
      refine wpAnyH_take (i := 17) (oi := { dst := some 29, op := Op.load 106 (Operand.tmp 2), type := 106, pos := "cell.go:96", after := #[{ on := 16, ground := Ground.guard }], guard := some (16, true) }) (v := undef) rfl (by kernel_rfl) (by kernel_rfl) (by kernel_rfl) (fun _ _ _ h => h) (Or.inr ⟨by rfl, rfl⟩) hHeld ?_
      try simp only [Act.put, List.setIfInBounds_toArray, List.set_cons_zero, List.set_cons_succ]
      refine wpAnyH_take (i := 18) (oi := { dst := some 30, op := Op.load 95 (Operand.tmp 3), type := 95, pos := "cell.go:96", after := #[{ on := 16, ground := Ground.guard }], guard := some (16, true) }) (v := undef) rfl (by kernel_rfl) (by kernel_rfl) (by kernel_rfl) (fun _ _ _ h => h) (Or.inr ⟨by rfl, rfl⟩) hHeld ?_
      try simp only [Act.put, List.setIfInBounds_toArray, List.set_cons_zero, List.set_cons_succ]
      refine wpAnyH_take (i := 19) (oi := { dst := some 31, op := Op.call { callee := Callee.value (Operand.tmp 29), args := #[Operand.tmp 30], argTypes := #[95] }, type := 4, pos := "cell.go:96", after := #[{ on := 17, ground := Ground.data }, { on := 18, ground := Ground.data }, { on := 16, ground := Ground.chain }, { on := 16, ground := Ground.guard }], guard := some (16, true) }) (v := undef) rfl (by kernel_rfl) (by kernel_rfl) (by kernel_rfl) (fun _ _ _ h => h) (Or.inr ⟨by rfl, rfl⟩) hHeld ?_
      try simp only [Act.put, List.setIfInBounds_toArray, List.set_cons_zero, List.set_cons_succ]
      refine wpAnyH_take (i := 20) (oi := { dst := some 32, op := Op.pick (Operand.tmp 28) (Operand.tmp 31) (Operand.const (Value.bool false)), type := 4, pos := "cell.go:96", after := #[{ on := 16, ground := Ground.data }, { on := 19, ground := Ground.data }, { on := 9, ground := Ground.guard }], guard := some (9, false) }) (v := undef) rfl (by kernel_rfl) (by kernel_rfl) (by kernel_rfl) (fun _ _ _ h => h) (Or.inr ⟨by rfl, rfl⟩) hHeld ?_
      try simp only [Act.put, List.setIfInBounds_toArray, List.set_cons_zero, List.set_cons_succ]
      refine wpAnyH_take (i := 21) (oi := { dst := some 33, op := Op.pick (Operand.tmp 21) (Operand.const (Value.bool true)) (Operand.tmp 32), type := 4, pos := "cell.go:96", after := #[{ on := 9, ground := Ground.data }, { on := 20, ground := Ground.data }], guard := none }) (v := ?_) rfl (by kernel_rfl) (by kernel_rfl) (by kernel_rfl) (fun _ _ _ h => h) (Or.inl ⟨by rfl, ?_⟩) hHeld ?_
      rotate_left
      · (intro W1 hSw; (try dsimp only at hSw); go_simp; first | done | (with_reducible rfl))
      try simp only [Act.put, List.setIfInBounds_toArray, List.set_cons_zero, List.set_cons_succ]
      refine wpAnyH_take (i := 22) (oi := { dst := some 4, op := Op.assign (Operand.tmp 33), type := 4, pos := "cell.go:96", after := #[{ on := 21, ground := Ground.data }, { on := 19, ground := Ground.chain }, { on := 0, ground := Ground.phase }, { on := 1, ground := Ground.phase }, { on := 2, ground := Ground.phase }, { on := 3, ground := Ground.phase }, { on := 4, ground := Ground.phase }, { on := 5, ground := Ground.phase }, { on := 6, ground := Ground.phase }, { on := 7, ground := Ground.phase }, { on := 8, ground := Ground.phase }, { on := 9, ground := Ground.phase }, { on := 10, ground := Ground.phase }, { on := 11, ground := Ground.phase }, { on := 12, ground := Ground.phase }, { on := 13, ground := Ground.phase }, { on := 14, ground := Ground.phase }, { on := 15, ground := Ground.phase }, { on := 16, ground := Ground.phase }, { on := 17, ground := Ground.phase }, { on := 18, ground := Ground.phase }, { on := 19, ground := Ground.phase }, { on := 20, ground := Ground.phase }, { on := 21, ground := Ground.phase }], guard := none }) (v := ?_) rfl (by kernel_rfl) (by kernel_rfl) (by kernel_rfl) (fun _ _ _ h => h) (Or.inl ⟨by rfl, ?_⟩) hHeld ?_
      rotate_left
      · (intro W1 hSw; (try dsimp only at hSw); go_simp; first | done | (with_reducible rfl))
      try simp only [Act.put, List.setIfInBounds_toArray, List.set_cons_zero, List.set_cons_succ]
      refine wpAnyH_done (by kernel_rfl) ?_ _
      go_wp2
      go_ret
      exact ⟨by simp, hb2.trans (((below_drewN w' 1).trans (hb.mono (by simp))).mono (by omega))⟩
end Go.Proofs.Ytdgojfjaooindaa

