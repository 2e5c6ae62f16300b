/-
  Contracts of package clock's functions: Count, Begin, Live, Commit, Abort, Sees, Clashes, Settled, Aborted.
-/
import Derived.Test.YtdfkdgnhpdgphaaGreatDoorSkw6
import Derived.Outline
import Derived.Deep.RegionHeld3
import Derived.Deep.RegionLaw
import Derived.BigRegion
namespace Go.Proofs.YtdfkdgnhpdgphaaGreatDoor
open Go.RowKit Go.Proofs.Lig

set_option maxRecDepth 100000 in
theorem state_eq (x : Tx) : (stateOf x == 0) = x.live := by
  unfold stateOf
  cases x.live <;> simp
  split <;> simp
set_option maxRecDepth 100000 in
theorem count_le (l : List Tx) : (l.filter (·.live)).length ≤ l.length := List.length_filter_le _ _

theorem count_any (w : World) (B : Nat) (A : Option Addr) (cap : Nat) (c : Clk) (h : ClkA w B A cap c) :
    Calls Tryz.prog 60 #[.pointer (some ⟨B, 0, none⟩)] w fun e w' => e = .returned (.int .i64 (c.count : Int)) ∧ Below w.heap.size w w' := by
  have h3 := h.len
  have hc := h.blk.cell 0
  simp only [List.getElem?_cons_zero] at hc
  go_enter Tryz.func60, Tryz.ntmps60
  go_wp2
  go_loopw [3, 13] (fun n i wr => ∃ k : Nat, k ≤ c.l.length ∧ n = .int .i64 (((c.l.take k).filter (·.live)).length : Int) ∧ i = .int .i64 (k : Int) ∧ Below w.heap.size w wr) (fun _ i _ => c.l.length - (intOf i).toNat)
  case atStart => exact ⟨0, Nat.zero_le _, rfl, rfl, Below.refl _ _⟩
  case round =>
    obtain ⟨k, hk, rfl, rfl, hb⟩ := hrel
    by_cases hlt : k < c.l.length
    · obtain ⟨x, hx⟩ : ∃ x, c.l[k]? = some x := ⟨_, List.getElem?_eq_getElem hlt⟩
      obtain ⟨g, rfl, hg, _⟩ := h.row (by omega)
      obtain ⟨c0, c1, c2⟩ := h.tx hx
      have d0 := (hb.cell (p := ⟨g, k * 3, none⟩) hg).trans c0
      have d1 := (hb.cell (p := ⟨g, k * 3 + 1, none⟩) hg).trans c1
      have d2 := (hb.cell (p := ⟨g, k * 3 + 2, none⟩) hg).trans c2
      have hcl := count_le (c.l.take k)
      have hcl2 : (c.l.take k).length ≤ k := List.length_take_le _ _
      have ht := Clk.count_take c.l k x hx
      have HT := hid ht
      have HX := hid hx
      clear ht hx c0 c1 c2 h hc
      have hs := state_eq x
      have hsz := hb.size
      cases hl : x.live
      all_goals
        rw [hl] at hs
        have HL := hid hl
        clear hl
        go_wp2
        go_roundw
        case rel => exact ⟨k + 1, by omega, by rw [HT.out, HL.out]; first | rfl | (simp; try go_num), by go_num, by go_grown⟩
        case measure => simp [intOf]; omega
    · obtain rfl : k = c.l.length := by omega
      have HT : Hid (c.l.take c.l.length = c.l) := List.take_length
      go_wp2
      go_ret
      exact ⟨by rw [HT.out]; rfl, hb⟩

/-! ### Begin -/
set_option maxRecDepth 100000 in
theorem encTxs_append (l : List Tx) (x : Tx) : encTxs (l ++ [x]) = encTxs l ++ encTx x := by simp [encTxs]
theorem info_tx : (Tryz.prog.info? 237).map (fun i => (i.zero, i.size, i.bytes)) = some (some (.agg #[.int .i64 0, .int .i64 0, .int .i64 0]), 3, 24) := by kernel_rfl

set_option maxRecDepth 100000 in
theorem begin_full (w : World) (B : Nat) (A : Option Addr) (cap : Nat) (c : Clk) (h : ClkA w B A cap c) (hf : 4 ≤ c.count) :
    Calls Tryz.prog 80 #[.pointer (some ⟨B, 0, none⟩)] w fun e w' => e = .returned (.tuple #[.int .i64 0, .int .i64 3]) ∧ Below w.heap.size w w' := by
  go_enter Tryz.func80, Tryz.ntmps80
  go_wp2_with (go_at_call 60; refine (count_any _ B A cap c h).mono ?_; rintro e w' ⟨rfl, hb⟩)
  go_ret2
  exact ⟨rfl, hb⟩

set_option maxRecDepth 100000 in
theorem began_shut {w : World} {B gg cap2 : Nat} {sv : Value} {c : Clk} (hB : Blk w B 235 [sv, .int .i64 (c.n : Int)])
    (ho : w.ownsRow 0 237 3 (.slice (some ⟨gg, 0, none⟩) (c.l.length + 1) cap2) (c.l.length + 1) (encTxs c.l ++ [.int .i64 0, .int .i64 (c.n : Int), .int .i64 0])) :
    ClkA (w.setCell ⟨B, 0, none⟩ (.slice (some ⟨gg, 0, none⟩) (c.l.length + 1) cap2)) B (some ⟨gg, 0, none⟩) cap2 c.began := by
  have hne : gg ≠ B := fun e => own_ne ho hB (by decide) (by simp [Value.ownBlock, e])
  have h1 := hB.set_ 0 (.slice (some ⟨gg, 0, none⟩) (c.l.length + 1) cap2)
  have e1 : encTxs c.began.l = encTxs c.l ++ [.int .i64 0, .int .i64 (c.n : Int), .int .i64 0] := by simp [Clk.began, encTxs_append, encTx, stateOf]
  refine ⟨by rw [Clk.length_began]; exact h1, ?_⟩
  rw [Clk.length_began, e1]
  exact own_far ho (by simp [Value.ownBlock, hne]) _

set_option maxRecDepth 100000 in
theorem began_sub {B gg n cap2 N M : Nat} {sv : Value} (hN : N ≤ M) (hat : sv.ownBlock = some gg ∨ gg = M + 1) :
    Sub (B :: (Value.slice (some ⟨gg, 0, none⟩) n cap2).ownBlock.toList) (B :: sv.ownBlock.toList) N := by
  intro k hk
  simp only [Value.ownBlock, Option.toList_some, List.mem_cons, List.not_mem_nil, or_false] at hk
  rcases hk with rfl | rfl
  · exact .inl (by simp)
  · rcases hat with h | h
    · exact .inl (by simp [h])
    · exact .inr (by omega)

set_option maxHeartbeats 800000 in
set_option maxRecDepth 100000 in
theorem begin_ok (w : World) (B : Nat) (A : Option Addr) (cap : Nat) (c : Clk) (h : ClkA w B A cap c) (hf : c.count < 4) (hn : c.l.length ≤ 1000000) :
    Calls Tryz.prog 80 #[.pointer (some ⟨B, 0, none⟩)] w fun e w' => e = .returned (.tuple #[.int .i64 ((c.l.length : Int) + 1), .int .i64 0]) ∧
      ∃ A' cap', ClkA w' B A' cap' c.began ∧ Sub (B :: (Value.slice A' c.began.l.length cap').ownBlock.toList) (B :: (Value.slice A c.l.length cap).ownBlock.toList) w.heap.size ∧ Fr (B :: (Value.slice A c.l.length cap).ownBlock.toList) w w' := by
  have hlen := h.len
  have HN := hid hn
  clear hn
  go_enter Tryz.func80, Tryz.ntmps80
  go_wp2_with (go_at_call 60; refine (count_any _ B A cap c h).mono ?_; rintro e w2 ⟨rfl, hb⟩)
  obtain ⟨i0, hi, hz0, hz1, hz2⟩ := info_parts info_tx
  have hB := h.blk.below hb h.blk.lt
  have ho := own_fr (S := []) h.own (Fr.of_below hb (Nat.le_refl _)) (by simp)
  have hne := own_ne h.own h.blk (by decide)
  have c0 := hB.cell 0
  have c1 := hB.cell 1
  simp only [List.getElem?_cons_zero, List.getElem?_cons_succ] at c0 c1
  have f0 := hB.frozen 0
  have hlt := hB.lt
  have hF : Fr (B :: (Value.slice A c.l.length cap).ownBlock.toList) w w2 := Fr.of_below hb (Nat.le_refl _)
  have HF := hid hF
  have HB := hid hB
  clear hF hB hb h
  go_region_law (first | (refine step_append_lies _ (by rfl) _ _ _ (by rfl) 0 237 i0 _ 3 24 Tryz.underlying233 hi hz0 hz1 hz2 rfl (by omega) (.slice A c.l.length cap) c.l.length (encTxs c.l) (by rfl) ((ho.alloc _).drew) ⟨w2.heap.size, 0, none⟩ 1 1 [.int .i64 0, .int .i64 (c.n : Int), .int .i64 0] (by rfl) (by rfl) (World.news_of_block (cs := #[.int .i64 0, .int .i64 (c.n : Int), .int .i64 0]) (t := 237) (fr := (0, 0)) (heap_alloc_new w2 _)) (by simp [Value.oneCell']) (by omega) (by have := HN.out; unfold maxLen; omega) (by have := HN.out; omega) (by simp) (w2.heap.size + 1) (by simp) ?_; intro gg cap2 w3 hown3 hgrow hat hlt3; have d0 := ((HB.out.alloc _).drew.grown hgrow hne).cell 0; have d1 := ((HB.out.alloc _).drew.grown hgrow hne).cell 1; have e0 := ((HB.out.alloc _).drew.grown hgrow hne).frozen 0; simp only [List.getElem?_cons_zero, List.getElem?_cons_succ] at d0 d1))
  all_goals
    go_wp2
    go_ret2
    have hB3 := (HB.out.alloc (.cells #[.int .i64 0, .int .i64 (c.n : Int), .int .i64 0] 237)).drew.grown hgrow hne
    exact ⟨rfl, some ⟨gg, 0, none⟩, cap2, began_shut hB3 hown3, began_sub HF.out.size hat, ((HF.out.alloc _).drew.grown hgrow (fun k hk => .inl (by simp [hk]))).setCell (.inl (by simp)) _⟩
end Go.Proofs.YtdfkdgnhpdgphaaGreatDoor
