/-
  A nil cell: contracts; the walk of ligaturelaw7.CellOfNothing.
-/
import Derived.Laws.EntriesVeiled
import Derived.Test.YtdgojfjaooindaaKnown7
namespace Go.Proofs.Ytdgojfjaooindaa
open Go.RowKit Go.Proofs.Lig

theorem undo_nil (w : World) (t : Int) : Calls Try.prog 50 #[.pointer none, .int .i64 t] w fun e w' => (∃ u, e = .returned u) ∧ Below w.heap.size w w' := by
  have hB : Below w.heap.size w (w.alloc (.cells #[.int .i64 t] 3)) := (Below.refl _ w).alloc (Nat.le_refl _) _
  go_enter Try.func50, Try.ntmps50
  go_wp2_with fail
  go_end0
  exact ⟨⟨_, rfl⟩, hB⟩
theorem each_nil (w : World) (f : Value) : Calls Try.prog 51 #[.pointer none, f] w fun e w' => (∃ u, e = .returned u) ∧ w = w' := by
  go_enter Try.func51, Try.ntmps51
  go_wp2_with fail
  refine bodyPost_ret (results_none rfl _ _ _) rfl ?_
  exact ⟨⟨_, rfl⟩, rfl⟩
theorem last_nil (w : World) (fn : Nat) (lb : Array Value) : Calls Try.prog 61 #[.pointer none, .func (.func fn) #[] lb] w fun e w' => e = .returned (.tuple #[.int .i64 0, .bool false]) ∧ Below w.heap.size w w' := by
  go_enter Try.func61, Try.ntmps61
  go_wp2_with fail
  have hB : Below w.heap.size w (((w.alloc (.cells #[.func (.func fn) #[] lb] 30)).alloc (.cells #[.int .i64 0] 3)).alloc (.cells #[.bool false] 4)) := (((Below.refl _ w).alloc (Nat.le_refl _) _).alloc (by simp) _).alloc (by simp; omega) _
  have bV := ((Blk.new (w.alloc (.cells #[.func (.func fn) #[] lb] 30)) 3 [.int .i64 0]).alloc (.cells #[.bool false] 4)).cell 0
  have bO := (Blk.new ((w.alloc (.cells #[.func (.func fn) #[] lb] 30)).alloc (.cells #[.int .i64 0] 3)) 4 [.bool false]).cell 0
  simp only [List.getElem?_cons_zero, World.size_alloc] at bV bO
  refine bodyPost_ret (v := .tuple #[.int .i64 0, .bool false]) ?_ rfl ⟨rfl, hB⟩
  simp [results, Try.f61, go_sem, bV, bO]
theorem check_nil (w : World) (C : Value) (t : Int) : Calls Try.prog 44 #[.pointer none, C, .int .i64 t] w fun e w' => e = .returned (.int .i64 4) ∧ w = w' := by
  go_enter Try.func44, Try.ntmps44
  go_wp2_with fail
  go_ret
  exact ⟨rfl, rfl⟩
theorem write_nil (w : World) (C : Value) (t v : Int) (g : Bool) : Calls Try.prog 42 #[.pointer none, C, .int .i64 t, .int .i64 v, .bool g] w fun e w' => e = .returned (.int .i64 4) ∧ w = w' := by
  go_enter Try.func42, Try.ntmps42
  go_wp2_with fail
  refine (check_nil _ _ _).mono ?_
  rintro e w' ⟨rfl, rfl⟩
  go_wp2_with fail
  go_ret
  exact ⟨rfl, rfl⟩
theorem spare_nil (w : World) (C : Option Addr) : Calls Try.prog 68 #[.pointer none, .pointer C] w fun e w' => e = .returned (.int .i64 (-1)) ∧ Below w.heap.size w w' := by
  have hB : Below w.heap.size w ((w.alloc (.cells #[.pointer none] 54)).alloc (.cells #[.pointer C] 22)) := ((Below.refl _ w).alloc (Nat.le_refl _) _).alloc (by simp) _
  go_enter Try.func68, Try.ntmps68
  go_wp2_with fail
  go_ret
  exact ⟨rfl, hB⟩
theorem spareB_nil (w : World) (C : Option Addr) : Calls Try.prog 49 #[.pointer none, .pointer C] w fun e w' => e = .returned (.bool false) ∧ Below w.heap.size w w' := by
  go_enter Try.func49, Try.ntmps49
  go_wp2_with fail
  refine (spare_nil _ _).mono ?_
  rintro e w' ⟨rfl, hb⟩
  go_wp2_with fail
  go_ret
  exact ⟨rfl, hb⟩
theorem sweep_nil (w : World) (C : Option Addr) : Calls Try.prog 48 #[.pointer none, .pointer C] w fun e w' => e = .returned (.bool false) ∧ Below w.heap.size w w' := by
  go_enter Try.func48, Try.ntmps48
  go_wp2_with fail
  refine (spare_nil _ _).mono ?_
  rintro e w' ⟨rfl, hb⟩
  go_wp2_with fail
  go_ret
  exact ⟨rfl, hb⟩
theorem len_nil (w : World) : Calls Try.prog 47 #[.pointer none] w fun e w' => e = .returned (.int .i64 0) ∧ w = w' := by
  go_enter Try.func47, Try.ntmps47
  go_wp2_with fail
  go_ret
  exact ⟨rfl, rfl⟩
theorem read_nil (w : World) (C : Option Addr) (t : Int) : Calls Try.prog 43 #[.pointer none, .pointer C, .int .i64 t] w fun e w' => e = .returned (.tuple #[.int .i64 0, .bool false]) ∧ Below w.heap.size w w' := by
  have hB : Below w.heap.size w ((w.alloc (.cells #[.pointer C] 22)).alloc (.cells #[.int .i64 t] 3)) := ((Below.refl _ w).alloc (Nat.le_refl _) _).alloc (by simp) _
  go_enter Try.func43, Try.ntmps43
  go_wp2_with fail
  refine (last_nil _ _ _).mono ?_
  rintro e w' ⟨rfl, hb⟩
  go_wp2_with fail
  go_ret2
  exact ⟨rfl, hB.trans (hb.mono (by simp; omega))⟩

set_option maxRecDepth 100000 in
set_option maxHeartbeats 1000000 in
theorem celnil_walk (t v : Int) (w : World) : Calls Try.prog 15 #[.int .i64 t, .int .i64 v] w fun e w' => e = .returned (.bool true) ∧ Below w.heap.size w w' := by
  go_enter Try.func15, Try.ntmps15
  go_wp2_with fail
  refine (new_N w).mono ?_
  rintro e w1 ⟨rfl, h1, _⟩
  have B1 := hid h1.below
  clear h1
  have bN := Blk.new w1 3 [.int .i64 0]
  have B2 : Hid (Below w.heap.size w (w1.alloc (.cells #[.int .i64 0] 3))) := B1.out.alloc B1.out.size _
  go_wp2_with fail
  refine (undo_nil _ _).mono ?_
  rintro e w2 ⟨⟨u1, rfl⟩, hb2⟩
  go_wp2_with fail
  refine (each_nil _ _).mono ?_
  rintro e w' ⟨⟨u2, rfl⟩, rfl⟩
  go_wp2_with fail
  refine (read_nil _ _ _).mono ?_
  rintro e w3 ⟨rfl, hb3⟩
  have hw3 : Below (w1.alloc (.cells #[.int .i64 0] 3)).heap.size (w1.alloc (.cells #[.int .i64 0] 3)) w3 := hb2.trans (hb3.mono hb2.size)
  have n0 := (hw3.cell (p := ⟨w1.heap.size, 0, none⟩) (by simp)).trans (bN.cell 0)
  simp only [List.getElem?_cons_zero] at n0
  have hsz := hw3.size
  simp only [World.size_alloc] at hsz
  have B3 : Hid (Below w.heap.size w w3) := B2.out.trans (hw3.mono B2.out.size)
  clear hb2 hb3 hw3 bN
  go_wp2_with fail
  go_region_held3 (fun w5 => w5.cell? ⟨w1.heap.size, 0, none⟩ = some (.int .i64 0) ∧ Below w3.heap.size w3 w5) (first | exact ⟨(hk.cell (p := ⟨w1.heap.size, 0, none⟩) (by simp; omega)).trans n0, hk⟩ | exact ⟨n0, below_drewN w3 1⟩)
    (first
      | (go_at_call 42; refine (write_nil _ _ _ _ _).mono ?_; rintro e wa ⟨rfl, rfl⟩; have hk := below_drewN w3 1)
      | (go_at_call 44; refine (check_nil _ _ _).mono ?_; rintro e wa ⟨rfl, rfl⟩; have hq := (by assumption : (_ ∧ Below w3.heap.size w3 _)).2; have hk := hq)
      | (go_at_call 49; refine (spareB_nil _ _).mono ?_; rintro e wa ⟨rfl, hb⟩; have hq := (by assumption : (_ ∧ Below w3.heap.size w3 _)).2; have hk := hq.trans (hb.mono hq.size))
      | (go_at_call 48; refine (sweep_nil _ _).mono ?_; rintro e wa ⟨rfl, hb⟩; have hq := (by assumption : (_ ∧ Below w3.heap.size w3 _)).2; have hk := hq.trans (hb.mono hq.size))
      | (go_at_call 47; refine (len_nil _).mono ?_; rintro e wa ⟨rfl, rfl⟩; have hq := (by assumption : (_ ∧ Below w3.heap.size w3 _)).2; have hk := hq)
      | (go_at_call 40; refine (known7 _).mono ?_; rintro e wa ⟨rfl, hb⟩; have hq := (by assumption : (_ ∧ Below w3.heap.size w3 _)).2; have hk := hq.trans (hb.mono hq.size)))
  have hq := (by assumption : (_ ∧ Below w3.heap.size w3 _)).2
  go_wp2
  go_ret
  exact ⟨rfl, B3.out.trans (hq.mono B3.out.size)⟩
end Go.Proofs.Ytdgojfjaooindaa
