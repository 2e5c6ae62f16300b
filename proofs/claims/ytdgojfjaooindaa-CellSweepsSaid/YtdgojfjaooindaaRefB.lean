/-
  Contracts of the reference's clock, more: Begin, Commit, Abort.
-/
import Derived.Test.YtdgojfjaooindaaRefA
namespace Go.Proofs.Ytdgojfjaooindaa
open Go.RowKit Go.Proofs.Lig

theorem info_rtx : (Try.prog.info? 84).map (fun i => (i.zero, i.size, i.bytes)) = some (some (.agg #[.int .i64 0, .int .i64 0, .bool false]), 3, 24) := by kernel_rfl

theorem r_begin_full (w : World) (B : Nat) (A : Option Addr) (cap : Nat) (c : Clk) (h : RefA w B A cap c) (hf : 4 ≤ c.count) :
    Calls Try.prog 26 #[.pointer (some ⟨B, 0, none⟩)] w fun e w' => e = .returned (.tuple #[.int .i64 0, .int .i64 3]) ∧ w = w' := by
  go_enter Try.func26, Try.ntmps26
  go_wp2_with (go_at_call 29; refine (r_count_any _ B A cap c h).mono ?_; rintro e w' ⟨rfl, rfl⟩)
  go_ret2
  exact ⟨rfl, rfl⟩

theorem r_began_shut {w : World} {B gg cap2 : Nat} {sv : Value} {c : Clk} (hB : Blk w B 36 [sv, .int .i64 (c.n : Int)])
    (ho : w.ownsRow 0 84 3 (.slice (some ⟨gg, 0, none⟩) (c.l.length + 1) cap2) (c.l.length + 1) (encRs c.l ++ [.int .i64 (c.n : Int), .int .i64 0, .bool true])) :
    RefA (w.setCell ⟨B, 0, none⟩ (.slice (some ⟨gg, 0, none⟩) (c.l.length + 1) cap2)) B (some ⟨gg, 0, none⟩) cap2 c.began := by
  have hne : gg ≠ B := fun e => own_ne ho hB (by decide) (by simp [Value.ownBlock, e])
  have h1 := hB.set_ 0 (.slice (some ⟨gg, 0, none⟩) (c.l.length + 1) cap2)
  have e1 : encRs c.began.l = encRs c.l ++ [.int .i64 (c.n : Int), .int .i64 0, .bool true] := by simp [Clk.began, encRs_append, encR]
  refine ⟨by rw [Clk.length_began]; exact h1, ?_⟩
  rw [Clk.length_began, e1]
  exact own_far ho (by simp [Value.ownBlock, hne]) _

set_option maxHeartbeats 800000 in
set_option maxRecDepth 100000 in
theorem r_begin_ok (w : World) (B : Nat) (A : Option Addr) (cap : Nat) (c : Clk) (h : RefA w B A cap c) (hf : c.count < 4) (hn : c.l.length ≤ 1000000) :
    Calls Try.prog 26 #[.pointer (some ⟨B, 0, none⟩)] w fun e w' => e = .returned (.tuple #[.int .i64 ((c.l.length : Int) + 1), .int .i64 0]) ∧
      ∃ A' cap', RefA w' B A' cap' c.began ∧ Sub (B :: (Value.slice A' c.began.l.length cap').ownBlock.toList) (B :: (Value.slice A c.l.length cap).ownBlock.toList) w.heap.size ∧ Fr (B :: (Value.slice A c.l.length cap).ownBlock.toList) w w' := by
  have hlen := h.len
  have HN := hid hn
  clear hn
  go_enter Try.func26, Try.ntmps26
  go_wp2_with (go_at_call 29; refine (r_count_any _ B A cap c h).mono ?_; rintro e w2 ⟨rfl, rfl⟩)
  obtain ⟨i0, hi, hz0, hz1, hz2⟩ := info_parts info_rtx
  have ho := h.own
  have hne := own_ne h.own h.blk (by decide)
  have c0 := h.blk.cell 0
  have c1 := h.blk.cell 1
  simp only [List.getElem?_cons_zero, List.getElem?_cons_succ] at c0 c1
  have f0 := h.blk.frozen 0
  have hlt := h.blk.lt
  have HB := hid h.blk
  clear h
  go_region_law (first | (refine step_append_lies _ (by rfl) _ _ _ (by rfl) 0 84 i0 _ 3 24 Try.underlying34 hi hz0 hz1 hz2 rfl (by omega) (.slice A c.l.length cap) c.l.length (encRs c.l) (by rfl) ((ho.alloc _).drew) ⟨w.heap.size, 0, none⟩ 1 1 [.int .i64 (c.n : Int), .int .i64 0, .bool true] (by rfl) (by rfl) (World.news_of_block (cs := #[.int .i64 (c.n : Int), .int .i64 0, .bool true]) (t := 84) (fr := (0, 0)) (heap_alloc_new w _)) (by simp [Value.oneCell']) (by omega) (by have := HN.out; unfold maxLen; omega) (by have := HN.out; omega) (by simp) (w.heap.size + 1) (by simp) ?_; intro gg cap2 w3 hown3 hgrow hat hlt3; have d0 := ((HB.out.alloc _).drew.grown hgrow hne).cell 0; have d1 := ((HB.out.alloc _).drew.grown hgrow hne).cell 1; have e0 := ((HB.out.alloc _).drew.grown hgrow hne).frozen 0; simp only [List.getElem?_cons_zero, List.getElem?_cons_succ] at d0 d1))
  all_goals
    go_wp2
    go_ret2
    have hB3 := (HB.out.alloc (.cells #[.int .i64 (c.n : Int), .int .i64 0, .bool true] 84)).drew.grown hgrow hne
    exact ⟨rfl, some ⟨gg, 0, none⟩, cap2, r_began_shut hB3 hown3, began_sub (Nat.le_refl _) hat, (((Fr.refl _ w).alloc _).drew.grown hgrow (fun k hk => .inl (by simp [hk]))).setCell (.inl (by simp)) _⟩

theorem r_committed_shut {w : World} {B g cap : Nat} {c : Clk} {t : Int} {x : Tx} (h : RefA w B (some ⟨g, 0, none⟩) cap c) (hx : c.tx? t = some x) :
    RefA (((w.setCell ⟨B, 1, none⟩ (.int .i64 ((c.n : Int) + 1))).setCell ⟨g, (t.toNat - 1) * 3 + 2, none⟩ (.bool false)).setCell ⟨g, (t.toNat - 1) * 3 + 1, none⟩ (.int .i64 ((c.n : Int) + 1))) B (some ⟨g, 0, none⟩) cap (c.committed t) := by
  have hne : g ≠ B := fun e => own_ne h.own h.blk (by decide) (by simp [Value.ownBlock, e])
  have hl : (c.committed t).l.length = c.l.length := Clk.length_committed c t
  have hc : c.committed t = ⟨c.l.set (t.toNat - 1) ⟨x.mark, c.n + 1, false⟩, c.n + 1⟩ := by unfold Clk.committed Clk.put; rw [hx]
  refine ⟨?_, ?_⟩
  · rw [hl, hc]
    have := ((h.blk.set_ 1 (.int .i64 ((c.n : Int) + 1))).far (p := ⟨g, (t.toNat - 1) * 3 + 2, none⟩) (Ne.symm hne) (.bool false)).far (p := ⟨g, (t.toNat - 1) * 3 + 1, none⟩) (Ne.symm hne) (.int .i64 ((c.n : Int) + 1))
    simpa using this
  · rw [hl, hc]
    have h0 := own_far h.own (p := ⟨B, 1, none⟩) (by simp [Value.ownBlock, hne]) (.int .i64 ((c.n : Int) + 1))
    have h1 := (h0.stored ((t.toNat - 1) * 3 + 2) (.bool false)).1
    have h2 := (h1.stored ((t.toNat - 1) * 3 + 1) (.int .i64 ((c.n : Int) + 1))).1
    have e := encRs_set c.l (t.toNat - 1) x (c.n + 1) false (Clk.tx?_eq hx)
    show World.ownsRow _ _ _ _ _ _ (encRs (c.l.set (t.toNat - 1) ⟨x.mark, c.n + 1, false⟩))
    rw [e]
    simpa using h2
theorem r_dropped_shut {w : World} {B g cap : Nat} {c : Clk} {t : Int} {x : Tx} (h : RefA w B (some ⟨g, 0, none⟩) cap c) (hx : c.tx? t = some x) :
    RefA (w.setCell ⟨g, (t.toNat - 1) * 3 + 2, none⟩ (.bool false)) B (some ⟨g, 0, none⟩) cap (c.dropped t) := by
  have hne : g ≠ B := fun e => own_ne h.own h.blk (by decide) (by simp [Value.ownBlock, e])
  have hl : (c.dropped t).l.length = c.l.length := Clk.length_dropped c t
  have hc : c.dropped t = ⟨c.l.set (t.toNat - 1) ⟨x.mark, x.as, false⟩, c.n⟩ := by unfold Clk.dropped Clk.put; rw [hx]
  refine ⟨?_, ?_⟩
  · rw [hl, hc]
    exact h.blk.far (p := ⟨g, (t.toNat - 1) * 3 + 2, none⟩) (Ne.symm hne) (.bool false)
  · rw [hl, hc]
    have h1 := (h.own.stored ((t.toNat - 1) * 3 + 2) (.bool false)).1
    have e := encRs_set0 c.l (t.toNat - 1) x false (Clk.tx?_eq hx)
    show World.ownsRow _ _ _ _ _ _ (encRs (c.l.set (t.toNat - 1) ⟨x.mark, x.as, false⟩))
    rw [e]
    exact h1

theorem r_commit_not (w : World) (B : Nat) (A : Option Addr) (cap : Nat) (c : Clk) (t : Int) (h : RefA w B A cap c) (hl : c.live t = false) :
    Calls Try.prog 55 #[.pointer (some ⟨B, 0, none⟩), .int .i64 t] w fun e w' => e = .returned (.int .i64 5) ∧ w = w' := by
  have C1 := r_live_any w B A cap c t h
  rw [hl] at C1
  have C1 := hid C1
  clear h hl
  go_enter Try.func55, Try.ntmps55
  go_wp2_with fail
  refine C1.out.mono ?_
  rintro e w' ⟨rfl, rfl⟩
  go_wp2
  go_ret
  exact ⟨rfl, rfl⟩
theorem r_abort_not (w : World) (B : Nat) (A : Option Addr) (cap : Nat) (c : Clk) (t : Int) (h : RefA w B A cap c) (hl : c.live t = false) :
    Calls Try.prog 56 #[.pointer (some ⟨B, 0, none⟩), .int .i64 t] w fun e w' => e = .returned (.int .i64 5) ∧ w = w' := by
  have C1 := r_live_any w B A cap c t h
  rw [hl] at C1
  have C1 := hid C1
  clear h hl
  go_enter Try.func56, Try.ntmps56
  go_wp2_with fail
  refine C1.out.mono ?_
  rintro e w' ⟨rfl, rfl⟩
  go_wp2
  go_ret
  exact ⟨rfl, rfl⟩
theorem r_abort_ok (w : World) (B : Nat) (A : Option Addr) (cap : Nat) (c : Clk) (t : Int) (h : RefA w B A cap c) (hl : c.live t = true) :
    Calls Try.prog 56 #[.pointer (some ⟨B, 0, none⟩), .int .i64 t] w fun e w' => e = .returned (.int .i64 0) ∧ RefA w' B A cap (c.dropped t) ∧ Fr (B :: (Value.slice A c.l.length cap).ownBlock.toList) w w' := by
  obtain ⟨x, hx, hxl⟩ := live_some hl
  obtain ⟨g, rfl⟩ := h.isRow hx
  obtain ⟨_, _, d2⟩ := h.tx (Clk.tx?_eq hx)
  obtain ⟨h1, h2⟩ := Clk.tx?_le hx
  have h3 := h.len
  have hc := h.blk.cell 0
  simp only [List.getElem?_cons_zero] at hc
  have f0 := World.ownsRow.frozenAt h.own ((t.toNat - 1) * 3 + 2)
  have HS := hid (r_dropped_shut h hx)
  have C1 := r_live_any w B _ cap c t h
  rw [hl] at C1
  have C1 := hid C1
  clear h hl hx hxl
  go_enter Try.func56, Try.ntmps56
  go_wp2_with fail
  refine C1.out.mono ?_
  rintro e w' ⟨rfl, rfl⟩
  go_wp2
  go_ret
  exact ⟨rfl, HS.out, (Fr.refl _ _).setCell (.inl (by simp [Value.ownBlock])) _⟩

set_option maxHeartbeats 800000 in
theorem r_commit_ok (w : World) (B : Nat) (A : Option Addr) (cap : Nat) (c : Clk) (t : Int) (h : RefA w B A cap c) (hl : c.live t = true) (hn : c.n ≤ 1000000) :
    Calls Try.prog 55 #[.pointer (some ⟨B, 0, none⟩), .int .i64 t] w fun e w' => e = .returned (.int .i64 0) ∧ RefA w' B A cap (c.committed t) ∧ Fr (B :: (Value.slice A c.l.length cap).ownBlock.toList) w w' := by
  obtain ⟨x, hx, hxl⟩ := live_some hl
  obtain ⟨g, rfl⟩ := h.isRow hx
  obtain ⟨_, d1, d2⟩ := h.tx (Clk.tx?_eq hx)
  obtain ⟨h1, h2⟩ := Clk.tx?_le hx
  have h3 := h.len
  have hne : g ≠ B := fun e => own_ne h.own h.blk (by decide) (by simp [Value.ownBlock, e])
  have b0 := h.blk.cell 0
  have b1 := h.blk.cell 1
  have fb := h.blk.frozen 1
  simp only [List.getElem?_cons_zero, List.getElem?_cons_succ] at b0 b1
  have f1 := World.ownsRow.frozenAt h.own ((t.toNat - 1) * 3 + 1)
  have f2 := World.ownsRow.frozenAt h.own ((t.toNat - 1) * 3 + 2)
  have hn' : (c.n : Int) ≤ 1000000 := by omega
  have HS := hid (r_committed_shut h hx)
  have C1 := r_live_any w B _ cap c t h
  rw [hl] at C1
  have C1 := hid C1
  have g1 : 0 ≤ t - 1 := by omega
  have g2 : t - 1 < c.l.length := by omega
  clear h hl hx hxl hn
  go_enter Try.func55, Try.ntmps55
  go_wp2_with fail
  refine C1.out.mono ?_
  rintro e w' ⟨rfl, rfl⟩
  go_wp2
  go_region
  go_wp2
  go_ret
  exact ⟨rfl, HS.out.drewN 1, ((((Fr.refl _ _).setCell (.inl (by simp)) _).setCell (.inl (by simp [Value.ownBlock])) _).setCell (.inl (by simp [Value.ownBlock])) _).drew⟩
end Go.Proofs.Ytdgojfjaooindaa
