/-
  Contracts of package clock's functions, more: Commit, Abort; all of them where the receiver is nil.
-/
import Derived.Test.YtdgojfjaooindaaClkE
namespace Go.Proofs.Ytdgojfjaooindaa
open Go.RowKit Go.Proofs.Lig

theorem encTxs_cons (x : Tx) (l : List Tx) : encTxs (x :: l) = encTx x ++ encTxs l := rfl
theorem encTxs_set (l : List Tx) (i : Nat) (x x' : Tx) (h : l[i]? = some x) (hm : x'.mark = x.mark) :
    encTxs (l.set i x') = ((encTxs l).set (i * 3) (.int .i64 (stateOf x'))).set (i * 3 + 2) (.int .i64 (x'.as : Int)) := by
  induction l generalizing i with
  | nil => simp at h
  | cons y l ih =>
    cases i with
    | zero =>
      simp only [List.getElem?_cons_zero, Option.some.injEq] at h
      subst h
      simp [encTxs_cons, encTx, hm]
    | succ i =>
      simp only [List.getElem?_cons_succ] at h
      have := ih i h
      simp only [List.set_cons_succ, encTxs_cons, this]
      have e1 : (i + 1) * 3 = (encTx y).length + i * 3 := by simp [encTx]; omega
      have e2 : (i + 1) * 3 + 2 = (encTx y).length + (i * 3 + 2) := by simp [encTx]; omega
      rw [e2, e1, List.set_append_right _ _ (by omega), List.set_append_right _ _ (by omega)]
      simp
theorem encTxs_set0 (l : List Tx) (i : Nat) (x x' : Tx) (h : l[i]? = some x) (hm : x'.mark = x.mark) (ha : x'.as = x.as) :
    encTxs (l.set i x') = (encTxs l).set (i * 3) (.int .i64 (stateOf x')) := by
  induction l generalizing i with
  | nil => simp at h
  | cons y l ih =>
    cases i with
    | zero =>
      simp only [List.getElem?_cons_zero, Option.some.injEq] at h
      subst h
      simp [encTxs_cons, encTx, hm, ha]
    | succ i =>
      simp only [List.getElem?_cons_succ] at h
      have := ih i h
      simp only [List.set_cons_succ, encTxs_cons, this]
      have e1 : (i + 1) * 3 = (encTx y).length + i * 3 := by simp [encTx]; omega
      rw [e1, List.set_append_right _ _ (by omega)]
      simp

/-- What Commit's three stores make of the clock. -/
theorem committed_shut {w : World} {B g cap : Nat} {c : Clk} {t : Int} {x : Tx} (h : ClkA w B (some ⟨g, 0, none⟩) cap c) (hx : c.tx? t = some x) :
    ClkA (((w.setCell ⟨B, 1, none⟩ (.int .i64 ((c.n : Int) + 1))).setCell ⟨g, (t.toNat - 1) * 3, none⟩ (.int .i64 1)).setCell ⟨g, (t.toNat - 1) * 3 + 2, none⟩ (.int .i64 ((c.n : Int) + 1))) B (some ⟨g, 0, none⟩) cap (c.committed t) := by
  have hne : g ≠ B := fun e => own_ne h.own h.blk (by decide) (by simp [Value.ownBlock, e])
  have hl : (c.committed t).l.length = c.l.length := Clk.length_committed c t
  have hc : c.committed t = ⟨c.l.set (t.toNat - 1) ⟨x.mark, c.n + 1, false⟩, c.n + 1⟩ := by unfold Clk.committed Clk.put; rw [hx]
  refine ⟨?_, ?_⟩
  · rw [hl, hc]
    have := ((h.blk.set_ 1 (.int .i64 ((c.n : Int) + 1))).far (p := ⟨g, (t.toNat - 1) * 3, none⟩) (Ne.symm hne) (.int .i64 1)).far (p := ⟨g, (t.toNat - 1) * 3 + 2, none⟩) (Ne.symm hne) (.int .i64 ((c.n : Int) + 1))
    simpa using this
  · rw [hl, hc]
    have h0 := own_far h.own (p := ⟨B, 1, none⟩) (by simp [Value.ownBlock, hne]) (.int .i64 ((c.n : Int) + 1))
    have h1 := (h0.stored ((t.toNat - 1) * 3) (.int .i64 1)).1
    have h2 := (h1.stored ((t.toNat - 1) * 3 + 2) (.int .i64 ((c.n : Int) + 1))).1
    have e := encTxs_set c.l (t.toNat - 1) x ⟨x.mark, c.n + 1, false⟩ (Clk.tx?_eq hx) rfl
    show World.ownsRow _ _ _ _ _ _ (encTxs (c.l.set (t.toNat - 1) ⟨x.mark, c.n + 1, false⟩))
    rw [e]
    simpa [stateOf] using h2
theorem dropped_shut {w : World} {B g cap : Nat} {c : Clk} {t : Int} {x : Tx} (h : ClkA w B (some ⟨g, 0, none⟩) cap c) (hx : c.tx? t = some x) (h0 : x.as = 0) :
    ClkA (w.setCell ⟨g, (t.toNat - 1) * 3, none⟩ (.int .i64 2)) B (some ⟨g, 0, none⟩) cap (c.dropped t) := by
  have hne : g ≠ B := fun e => own_ne h.own h.blk (by decide) (by simp [Value.ownBlock, e])
  have hl : (c.dropped t).l.length = c.l.length := Clk.length_dropped c t
  have hc : c.dropped t = ⟨c.l.set (t.toNat - 1) ⟨x.mark, x.as, false⟩, c.n⟩ := by unfold Clk.dropped Clk.put; rw [hx]
  refine ⟨?_, ?_⟩
  · rw [hl, hc]
    exact h.blk.far (p := ⟨g, (t.toNat - 1) * 3, none⟩) (Ne.symm hne) (.int .i64 2)
  · rw [hl, hc]
    have h1 := (h.own.stored ((t.toNat - 1) * 3) (.int .i64 2)).1
    have e := encTxs_set0 c.l (t.toNat - 1) x ⟨x.mark, x.as, false⟩ (Clk.tx?_eq hx) rfl rfl
    show World.ownsRow _ _ _ _ _ _ (encTxs (c.l.set (t.toNat - 1) ⟨x.mark, x.as, false⟩))
    rw [e]
    simpa [stateOf, h0] using h1

theorem commit_not (w : World) (B : Nat) (A : Option Addr) (cap : Nat) (c : Clk) (t : Int) (h : ClkA w B A cap c) (hl : c.live t = false) :
    Calls Try.prog 19 #[.pointer (some ⟨B, 0, none⟩), .int .i64 t] w fun e w' => e = .returned (.int .i64 5) ∧ w = w' := by
  have C1 := live_any w B A cap c t h
  rw [hl] at C1
  have C1 := hid C1
  clear h hl
  go_enter Try.func19, Try.ntmps19
  go_wp2_with fail
  refine C1.out.mono ?_
  rintro e w' ⟨rfl, rfl⟩
  go_wp2
  go_ret
  exact ⟨rfl, rfl⟩
theorem abort_not (w : World) (B : Nat) (A : Option Addr) (cap : Nat) (c : Clk) (t : Int) (h : ClkA w B A cap c) (hl : c.live t = false) :
    Calls Try.prog 27 #[.pointer (some ⟨B, 0, none⟩), .int .i64 t] w fun e w' => e = .returned (.int .i64 5) ∧ w = w' := by
  have C1 := live_any w B A cap c t h
  rw [hl] at C1
  have C1 := hid C1
  clear h hl
  go_enter Try.func27, Try.ntmps27
  go_wp2_with fail
  refine C1.out.mono ?_
  rintro e w' ⟨rfl, rfl⟩
  go_wp2
  go_ret
  exact ⟨rfl, rfl⟩

theorem live_some {c : Clk} {t : Int} (h : c.live t = true) : ∃ x, c.tx? t = some x ∧ x.live = true := by
  unfold Clk.live at h
  split at h
  · rename_i x hx; exact ⟨x, hx, h⟩
  · cases h

theorem abort_ok (w : World) (B : Nat) (A : Option Addr) (cap : Nat) (c : Clk) (t : Int) (h : ClkA w B A cap c) (hl : c.live t = true) (hg : c.Good) :
    Calls Try.prog 27 #[.pointer (some ⟨B, 0, none⟩), .int .i64 t] w fun e w' => e = .returned (.int .i64 0) ∧ ClkA w' B A cap (c.dropped t) ∧ Fr (B :: (Value.slice A c.l.length cap).ownBlock.toList) w w' := by
  obtain ⟨x, hx, hxl⟩ := live_some hl
  obtain ⟨g, rfl⟩ := h.some hx
  obtain ⟨d0, d1, d2⟩ := h.tx (Clk.tx?_eq hx)
  have f0 := World.ownsRow.frozenAt h.own ((t.toNat - 1) * 3)
  have HS := hid (dropped_shut h hx (hg.bare x (Clk.tx?_mem hx) hxl))
  have C1 := live_any w B _ cap c t h
  rw [hl] at C1
  have C1 := hid C1
  have C2 := hid (at_some w B g cap c t x h hx)
  clear h hl hx hxl hg
  go_enter Try.func27, Try.ntmps27
  go_wp2_with fail
  refine C1.out.mono ?_
  rintro e w' ⟨rfl, rfl⟩
  go_wp2_with fail
  refine C2.out.mono ?_
  rintro e w' ⟨rfl, rfl⟩
  go_wp2
  go_ret
  exact ⟨rfl, HS.out, (Fr.refl _ _).setCell (.inl (by simp [Value.ownBlock])) _⟩

theorem commit_ok (w : World) (B : Nat) (A : Option Addr) (cap : Nat) (c : Clk) (t : Int) (h : ClkA w B A cap c) (hl : c.live t = true) (hn : c.n ≤ 1000000) :
    Calls Try.prog 19 #[.pointer (some ⟨B, 0, none⟩), .int .i64 t] w fun e w' => e = .returned (.int .i64 0) ∧ ClkA w' B A cap (c.committed t) ∧ Fr (B :: (Value.slice A c.l.length cap).ownBlock.toList) w w' := by
  obtain ⟨x, hx, hxl⟩ := live_some hl
  obtain ⟨g, rfl⟩ := h.some hx
  obtain ⟨d0, d1, d2⟩ := h.tx (Clk.tx?_eq hx)
  have f0 := World.ownsRow.frozenAt h.own ((t.toNat - 1) * 3)
  have f2 := World.ownsRow.frozenAt h.own ((t.toNat - 1) * 3 + 2)
  have hne : g ≠ B := fun e => own_ne h.own h.blk (by decide) (by simp [Value.ownBlock, e])
  have b1 := h.blk.cell 1
  have fb := h.blk.frozen 1
  simp only [List.getElem?_cons_zero, List.getElem?_cons_succ] at b1
  have hn' : (c.n : Int) ≤ 1000000 := by omega
  have HS := hid (committed_shut h hx)
  have C1 := live_any w B _ cap c t h
  rw [hl] at C1
  have C1 := hid C1
  have hat : ∀ w2, ClkA w2 B (some ⟨g, 0, none⟩) cap ⟨c.l, c.n + 1⟩ → Calls Try.prog 54 #[.pointer (some ⟨B, 0, none⟩), .int .i64 t] w2 fun e w' => e = .returned (.pointer (some ⟨g, (t.toNat - 1) * 3, none⟩)) ∧ w2 = w' :=
    fun w2 h2 => at_some w2 B g cap ⟨c.l, c.n + 1⟩ t x h2 hx
  have C2 := hid (hat (w.setCell ⟨B, 1, none⟩ (.int .i64 ((c.n : Int) + 1))) ⟨by simpa using h.blk.set_ 1 (.int .i64 ((c.n : Int) + 1)), own_far h.own (p := ⟨B, 1, none⟩) (by simp [Value.ownBlock, hne]) _⟩)
  clear h hl hx hxl hn hat
  go_enter Try.func19, Try.ntmps19
  go_wp2_with fail
  refine C1.out.mono ?_
  rintro e w' ⟨rfl, rfl⟩
  go_wp2_with fail
  refine C2.out.mono ?_
  rintro e w' ⟨rfl, rfl⟩
  go_wp2
  go_ret
  exact ⟨rfl, HS.out, (((Fr.refl _ _).setCell (.inl (by simp)) _).setCell (.inl (by simp [Value.ownBlock])) _).setCell (.inl (by simp [Value.ownBlock])) _⟩
end Go.Proofs.Ytdgojfjaooindaa
