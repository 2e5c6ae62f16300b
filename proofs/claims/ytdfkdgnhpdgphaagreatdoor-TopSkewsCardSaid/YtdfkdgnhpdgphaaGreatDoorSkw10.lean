/-
  Contracts of a cell of values of several cells: Write. (Printed by mk/celgen.py.)
-/
import Derived.Test.YtdfkdgnhpdgphaaGreatDoorSkw4
import Derived.Test.YtdfkdgnhpdgphaaGreatDoorSkw9
namespace Go.Proofs.YtdfkdgnhpdgphaaGreatDoor.Nod
open Go.RowKit Go.Proofs.Lig
attribute [local go_sem] run_store_float

set_option maxRecDepth 100000 in
theorem cel_set_last {w : World} {X g cap : Nat} {l : List (Ver NodV)} {y y' : Ver NodV} (h : CelA w X (some ⟨g, 0, none⟩) cap (l ++ [y])) :
    CelA ((((w.setCell ⟨g, l.length * 4, none⟩ (.int .i64 y'.who)).setCell ⟨g, l.length * 4 + 1, none⟩ (.slice y'.v.la y'.v.ln y'.v.lc)).setCell ⟨g, l.length * 4 + 2, none⟩ (.slice y'.v.pa y'.v.pn y'.v.pc)).setCell ⟨g, l.length * 4 + 3, none⟩ (.bool y'.gone)) X (some ⟨g, 0, none⟩) cap (l ++ [y']) := by
  have hne : g ≠ X := fun e => own_ne h.own h.blk (by decide) (by simp [Value.ownBlock, e])
  have hl : (l ++ [y']).length = (l ++ [y]).length := by simp
  refine ⟨?_, ?_⟩
  · rw [hl]
    have b0 := h.blk.far (p := ⟨g, l.length * 4, none⟩) (Ne.symm hne) (.int .i64 y'.who)
    have b1 := b0.far (p := ⟨g, l.length * 4 + 1, none⟩) (Ne.symm hne) (.slice y'.v.la y'.v.ln y'.v.lc)
    have b2 := b1.far (p := ⟨g, l.length * 4 + 2, none⟩) (Ne.symm hne) (.slice y'.v.pa y'.v.pn y'.v.pc)
    exact b2.far (p := ⟨g, l.length * 4 + 3, none⟩) (Ne.symm hne) _
  · rw [hl]
    have h0 := (h.own.stored (l.length * 4) (.int .i64 y'.who)).1
    have h1 := (h0.stored (l.length * 4 + 1) (.slice y'.v.la y'.v.ln y'.v.lc)).1
    have h2 := (h1.stored (l.length * 4 + 2) (.slice y'.v.pa y'.v.pn y'.v.pc)).1
    have hg := (h2.stored (l.length * 4 + 3) (.bool y'.gone)).1
    have e : encVers (l ++ [y']) = (((((encVers (l ++ [y])).set (l.length * 4) (.int .i64 y'.who)).set (l.length * 4 + 1) (.slice y'.v.la y'.v.ln y'.v.lc)).set (l.length * 4 + 2) (.slice y'.v.pa y'.v.pn y'.v.pc)).set (l.length * 4 + 3) (.bool y'.gone)) := by
      have e0 := encVers_len l
      rw [encVers_append, encVers_append]
      have e1 : encVers [y] = [.int .i64 y.who, .slice y.v.la y.v.ln y.v.lc, .slice y.v.pa y.v.pn y.v.pc, .bool y.gone] := rfl
      have e2 : encVers [y'] = [.int .i64 y'.who, .slice y'.v.la y'.v.ln y'.v.lc, .slice y'.v.pa y'.v.pn y'.v.pc, .bool y'.gone] := rfl
      rw [e1, e2]
      simp [e0]
    rw [e]
    exact hg

set_option maxRecDepth 100000 in
theorem info_ver : (Tryz.prog.info? 272).map (fun i => (i.zero, i.size, i.bytes)) = some (some (.agg #[.int .i64 0, .slice none 0 0, .slice none 0 0, .bool false]), 4, 64) := by kernel_rfl

set_option maxHeartbeats 400000 in
set_option maxRecDepth 100000 in
theorem cel_write_clash (w : World) (X : Nat) (C : Option Addr) (t : Int) (v : NodV) (gone : Bool) (e0 : Int) (he : (e0 != 0) = true)
    (hck : Calls Tryz.prog 236 #[.pointer (some ⟨X, 0, none⟩), .pointer C, .int .i64 t] (w.alloc (.cells #[.slice v.la v.ln v.lc, .slice v.pa v.pn v.pc] 35)) fun e w' => e = .returned (.int .i64 e0) ∧ Below (w.alloc (.cells #[.slice v.la v.ln v.lc, .slice v.pa v.pn v.pc] 35)).heap.size (w.alloc (.cells #[.slice v.la v.ln v.lc, .slice v.pa v.pn v.pc] 35)) w') :
    Calls Tryz.prog 158 #[.pointer (some ⟨X, 0, none⟩), .pointer C, .int .i64 t, .agg #[.slice v.la v.ln v.lc, .slice v.pa v.pn v.pc], .bool gone] w fun e w' => e = .returned (.int .i64 e0) ∧ Below w.heap.size w w' := by
  have HC := hid hck
  clear hck
  go_enter Tryz.func158, Tryz.ntmps158
  go_wp2_with fail
  refine HC.out.mono ?_
  rintro e w1 ⟨rfl, hb⟩
  go_wp2
  go_ret
  exact ⟨rfl, ((Below.refl _ w).alloc (Nat.le_refl _) _).trans (hb.mono (by simp))⟩

set_option maxHeartbeats 8000000 in
set_option maxRecDepth 100000 in
theorem cel_write_mine (w : World) (X g cap : Nat) (C : Option Addr) (l : List (Ver NodV)) (y : Ver NodV) (t : Int) (v : NodV) (gone : Bool) (h : CelA w X (some ⟨g, 0, none⟩) cap (l ++ [y])) (hy : (y.who == t) = true)
    (hck : Calls Tryz.prog 236 #[.pointer (some ⟨X, 0, none⟩), .pointer C, .int .i64 t] (w.alloc (.cells #[.slice v.la v.ln v.lc, .slice v.pa v.pn v.pc] 35)) fun e w' => e = .returned (.int .i64 0) ∧ Below (w.alloc (.cells #[.slice v.la v.ln v.lc, .slice v.pa v.pn v.pc] 35)).heap.size (w.alloc (.cells #[.slice v.la v.ln v.lc, .slice v.pa v.pn v.pc] 35)) w') :
    Calls Tryz.prog 158 #[.pointer (some ⟨X, 0, none⟩), .pointer C, .int .i64 t, .agg #[.slice v.la v.ln v.lc, .slice v.pa v.pn v.pc], .bool gone] w fun e w' => e = .returned (.int .i64 0) ∧ CelA w' X (some ⟨g, 0, none⟩) cap (l ++ [⟨t, v, gone⟩]) ∧ Fr [X, g] w w' := by
  have HC := hid hck
  have HH := hid h
  have HY := hid hy
  clear hck h hy
  go_enter Tryz.func158, Tryz.ntmps158
  go_wp2_with fail
  refine HC.out.mono ?_
  rintro e w1 ⟨rfl, hb⟩
  have H1 := hid ((HH.out.below ((Below.refl _ w).alloc (Nat.le_refl _) (.cells #[.slice v.la v.ln v.lc, .slice v.pa v.pn v.pc] 35))).below hb)
  have HB : Hid (Below w.heap.size w w1) := ((Below.refl _ w).alloc (Nat.le_refl _) _).trans (hb.mono (by simp))
  have hv0 : w.heap.size < w1.heap.size := by have := hb.size; simp at this; omega
  have bv := (Blk.new w 35 [.slice v.la v.ln v.lc, .slice v.pa v.pn v.pc]).below hb (by simp)
  have vv1 := bv.cell 0
  have vv2 := bv.cell 1
  simp only [List.getElem?_cons_zero, List.getElem?_cons_succ] at vv1 vv2 
  clear bv
  have hx := H1.out.blk.cell 0
  simp only [List.getElem?_cons_zero, List.length_append, List.length_singleton] at hx
  have hln := H1.out.len
  rw [List.length_append, List.length_singleton] at hln
  have hX := H1.out.blk.lt
  have hgw : g < w1.heap.size := own_lt H1.out.own rfl
  have hlast : (l ++ [y])[l.length]? = some y := by simp
  obtain ⟨c0, c1, c2, cg⟩ := row_ver H1.out.own hlast
  have f0 := H1.out.own.frozenAt (l.length * 4)
  have f1 := H1.out.own.frozenAt (l.length * 4 + 1)
  have f2 := H1.out.own.frozenAt (l.length * 4 + 2)
  have fg := H1.out.own.frozenAt (l.length * 4 + 3)
  have hy := HY.out
  clear hb hlast
  obtain ⟨n, hn⟩ : ∃ n, l.length = n := ⟨_, rfl⟩
  rw [hn] at hx hln c0 c1 c2 cg f0 f1 f2 fg
  have HN := hid hn
  clear hn
  go_wp2
  go_region
  go_wp2
  go_region
  go_wp2
  go_ret
  have hS := cel_set_last H1.out (y' := ⟨t, v, gone⟩)
  rw [HN.out] at hS
  have hne : g ≠ X := fun e => own_ne H1.out.own H1.out.blk (by decide) (by simp [Value.ownBlock, e])
  have hF : Fr [X, g] w w1 := Fr.of_below HB.out (Nat.le_refl _)
  exact ⟨rfl, (hS.below ((Below.refl _ _).alloc (Nat.le_refl _) _)).drewN 2, (((((hF.setCell (.inl (by simp)) _).setCell (.inl (by simp)) _).setCell (.inl (by simp)) _).setCell (.inl (by simp)) _).alloc _).drewN 2⟩

set_option maxRecDepth 100000 in
theorem cel_pushed {w : World} {X gg cap2 : Nat} {sv : Value} {l : List (Ver NodV)} {t : Int} {v : NodV} {gone : Bool} (hB : Blk w X 274 [sv])
    (ho : w.ownsRow 0 272 4 (.slice (some ⟨gg, 0, none⟩) (l.length + 1) cap2) (l.length + 1) (encVers l ++ [.int .i64 t, .slice v.la v.ln v.lc, .slice v.pa v.pn v.pc, .bool gone])) :
    CelA (w.setCell ⟨X, 0, none⟩ (.slice (some ⟨gg, 0, none⟩) (l.length + 1) cap2)) X (some ⟨gg, 0, none⟩) cap2 (l ++ [⟨t, v, gone⟩]) := by
  have hne : gg ≠ X := fun e => own_ne ho hB (by decide) (by simp [Value.ownBlock, e])
  have h1 := hB.set_ 0 (.slice (some ⟨gg, 0, none⟩) (l.length + 1) cap2)
  have e1 : (l ++ [(⟨t, v, gone⟩ : Ver NodV)]).length = l.length + 1 := by simp
  refine ⟨by rw [e1]; exact h1, ?_⟩
  rw [e1, encVers_append]
  exact own_far ho (by simp [Value.ownBlock, hne]) _

set_option maxHeartbeats 8000000 in
set_option maxRecDepth 100000 in
/-- .. behind the test: one more version. -/
theorem cel_write_more (w : World) (X : Nat) (A : Option Addr) (cap : Nat) (C : Option Addr) (l : List (Ver NodV)) (t : Int) (v : NodV) (gone : Bool) (h : CelA w X A cap l) (hy : Cel.mine l t = false) (hn : l.length ≤ 1000000)
    (hck : Calls Tryz.prog 236 #[.pointer (some ⟨X, 0, none⟩), .pointer C, .int .i64 t] (w.alloc (.cells #[.slice v.la v.ln v.lc, .slice v.pa v.pn v.pc] 35)) fun e w' => e = .returned (.int .i64 0) ∧ Below (w.alloc (.cells #[.slice v.la v.ln v.lc, .slice v.pa v.pn v.pc] 35)).heap.size (w.alloc (.cells #[.slice v.la v.ln v.lc, .slice v.pa v.pn v.pc] 35)) w') :
    Calls Tryz.prog 158 #[.pointer (some ⟨X, 0, none⟩), .pointer C, .int .i64 t, .agg #[.slice v.la v.ln v.lc, .slice v.pa v.pn v.pc], .bool gone] w fun e w' => e = .returned (.int .i64 0) ∧
      ∃ A' cap', CelA w' X A' cap' (l ++ [⟨t, v, gone⟩]) ∧ Sub (X :: (Value.slice A' (l.length + 1) cap').ownBlock.toList) (X :: (Value.slice A l.length cap).ownBlock.toList) w.heap.size ∧ Fr (X :: (Value.slice A l.length cap).ownBlock.toList) w w' := by
  have HC := hid hck
  have HH := hid h
  have HN := hid hn
  clear hck h hn
  have key : (l = [] ∨ ∃ l' y g, l = l' ++ [y] ∧ (y.who == t) = false ∧ A = some ⟨g, 0, none⟩) := by
    rcases List.eq_nil_or_concat l with rfl | ⟨l', y, rfl⟩
    · exact .inl rfl
    · obtain ⟨g, hg, _⟩ := HH.out.form (by simp)
      rw [List.concat_eq_append] at hy ⊢
      refine .inr ⟨l', y, g, rfl, ?_, hg⟩
      unfold Cel.mine at hy
      simpa using hy
  clear hy
  rcases key with rfl | ⟨l', y, g, rfl, hy, rfl⟩
  · go_enter Tryz.func158, Tryz.ntmps158
    go_wp2_with fail
    refine HC.out.mono ?_
    rintro e w1 ⟨rfl, hb⟩
    have H1 := hid ((HH.out.below ((Below.refl _ w).alloc (Nat.le_refl _) (.cells #[.slice v.la v.ln v.lc, .slice v.pa v.pn v.pc] 35))).below hb)
    have HB : Hid (Below w.heap.size w w1) := ((Below.refl _ w).alloc (Nat.le_refl _) _).trans (hb.mono (by simp))
    have hv0 : w.heap.size < w1.heap.size := by have := hb.size; simp at this; omega
    have bv := (Blk.new w 35 [.slice v.la v.ln v.lc, .slice v.pa v.pn v.pc]).below hb (by simp)
    have vv1 := bv.cell 0
    have vv2 := bv.cell 1
    simp only [List.getElem?_cons_zero, List.getElem?_cons_succ] at vv1 vv2 
    clear bv
    have hx := H1.out.blk.cell 0
    simp only [List.getElem?_cons_zero, List.length_nil] at hx
    have hX := H1.out.blk.lt
    have fX := H1.out.blk.frozen 0
    have hne := own_ne H1.out.own H1.out.blk (by decide)
    clear hb
    go_wp2
    go_region
    go_wp2
    obtain ⟨NB, hNB⟩ : ∃ NB, w1.heap.size = NB := ⟨_, rfl⟩
    obtain ⟨w7, hw7⟩ : ∃ w7, (w1.alloc (.cells #[.int .i64 t, .slice v.la v.ln v.lc, .slice v.pa v.pn v.pc, .bool gone] 272)).drew = w7 := ⟨_, rfl⟩
    have H7 : Hid (CelA w7 X A cap []) := by show CelA _ _ _ _ _; rw [← hw7]; exact (H1.out.below ((Below.refl _ _).alloc (Nat.le_refl _) _)).drewN 1
    have K7 : Hid (Blk w7 NB 272 [.int .i64 t, .slice v.la v.ln v.lc, .slice v.pa v.pn v.pc, .bool gone]) := by show Blk _ _ _ _; rw [← hw7, ← hNB]; exact (Blk.new w1 _ _).drew
    have F7 : Hid (Fr (X :: (Value.slice A 0 cap).ownBlock.toList) w w7) := by show Fr _ _ _; rw [← hw7]; exact (((Fr.of_below HB.out (Nat.le_refl _)).alloc _).drew)
    have S7 : Hid (w.heap.size ≤ w7.heap.size) := F7.out.size
    simp only [hNB]
    rw [hw7]
    clear hw7 hNB hx hX fX hne H1 HB
    obtain ⟨i0, hi, hz0, hz1, hz2⟩ := info_parts info_ver
    have ho := H7.out.own
    have hne := own_ne H7.out.own H7.out.blk (by decide)
    have c0 := H7.out.blk.cell 0
    simp only [List.getElem?_cons_zero, List.length_nil] at c0
    have f0 := H7.out.blk.frozen 0
    have k0 := K7.out.cell 0
    have k1 := K7.out.cell 1
    have k2 := K7.out.cell 2
    have kg := K7.out.cell 3
    simp only [List.getElem?_cons_zero, List.getElem?_cons_succ] at k0 k1 k2 kg
    have hlt := H7.out.blk.lt
    have HB7 := hid H7.out.blk
    simp only [List.length_nil] at ho hne
    go_region_law (first | (refine step_append_lies _ (by rfl) _ _ _ (by rfl) 0 272 i0 _ 4 64 Tryz.underlying270 hi hz0 hz1 hz2 rfl (by omega) (.slice A 0 cap) 0 (encVers []) (by rfl) ((ho.alloc _).drew) ⟨w7.heap.size, 0, none⟩ 1 1 [.int .i64 t, .slice v.la v.ln v.lc, .slice v.pa v.pn v.pc, .bool gone] (by rfl) (by rfl) (World.news_of_block (cs := #[.int .i64 t, .slice v.la v.ln v.lc, .slice v.pa v.pn v.pc, .bool gone]) (t := 272) (fr := (0, 0)) (heap_alloc_new w7 _)) (by simp [Value.oneCell']) (by omega) (by have := HN.out; unfold maxLen; omega) (by have := HN.out; omega) (by simp) (w7.heap.size + 1) (by simp) ?_; intro gg cap2 w3 hown3 hgrow hat hlt3; have d0 := ((HB7.out.alloc _).drew.grown hgrow hne).cell 0; have e0 := ((HB7.out.alloc _).drew.grown hgrow hne).frozen 0; simp only [List.getElem?_cons_zero, List.length_nil] at d0))
    all_goals
      go_wp2
      go_ret
      have hB3 := (HB7.out.alloc (.cells #[.int .i64 t, .slice v.la v.ln v.lc, .slice v.pa v.pn v.pc, .bool gone] 272)).drew.grown hgrow hne
      exact ⟨rfl, some ⟨gg, 0, none⟩, cap2, cel_pushed (l := []) hB3 hown3, began_sub S7.out hat, ((F7.out.alloc _).drew.grown hgrow (fun k hk => .inl (by simp [hk]))).setCell (.inl (by simp)) _⟩
  · have hlast : (l' ++ [y])[l'.length]? = some y := by simp
    go_enter Tryz.func158, Tryz.ntmps158
    go_wp2_with fail
    refine HC.out.mono ?_
    rintro e w1 ⟨rfl, hb⟩
    have H1 := hid ((HH.out.below ((Below.refl _ w).alloc (Nat.le_refl _) (.cells #[.slice v.la v.ln v.lc, .slice v.pa v.pn v.pc] 35))).below hb)
    have HB : Hid (Below w.heap.size w w1) := ((Below.refl _ w).alloc (Nat.le_refl _) _).trans (hb.mono (by simp))
    have hv0 : w.heap.size < w1.heap.size := by have := hb.size; simp at this; omega
    have bv := (Blk.new w 35 [.slice v.la v.ln v.lc, .slice v.pa v.pn v.pc]).below hb (by simp)
    have vv1 := bv.cell 0
    have vv2 := bv.cell 1
    simp only [List.getElem?_cons_zero, List.getElem?_cons_succ] at vv1 vv2 
    clear bv
    have hx := H1.out.blk.cell 0
    simp only [List.getElem?_cons_zero, List.length_append, List.length_singleton] at hx
    have hln := H1.out.len
    rw [List.length_append, List.length_singleton] at hln
    have hX := H1.out.blk.lt
    have fX := H1.out.blk.frozen 0
    have hgw : g < w1.heap.size := own_lt H1.out.own rfl
    have hne := own_ne H1.out.own H1.out.blk (by decide)
    obtain ⟨c0, _⟩ := row_ver H1.out.own hlast
    clear hb hlast
    go_wp2
    go_region
    go_wp2
    obtain ⟨NB, hNB⟩ : ∃ NB, w1.heap.size = NB := ⟨_, rfl⟩
    obtain ⟨w7, hw7⟩ : ∃ w7, (w1.alloc (.cells #[.int .i64 t, .slice v.la v.ln v.lc, .slice v.pa v.pn v.pc, .bool gone] 272)).drew = w7 := ⟨_, rfl⟩
    have H7 : Hid (CelA w7 X (some ⟨g, 0, none⟩) cap (l' ++ [y])) := by show CelA _ _ _ _ _; rw [← hw7]; exact (H1.out.below ((Below.refl _ _).alloc (Nat.le_refl _) _)).drewN 1
    have K7 : Hid (Blk w7 NB 272 [.int .i64 t, .slice v.la v.ln v.lc, .slice v.pa v.pn v.pc, .bool gone]) := by show Blk _ _ _ _; rw [← hw7, ← hNB]; exact (Blk.new w1 _ _).drew
    have F7 : Hid (Fr (X :: (Value.slice (some ⟨g, 0, none⟩) (l'.length + 1) cap).ownBlock.toList) w w7) := by show Fr _ _ _; rw [← hw7]; exact (((Fr.of_below HB.out (Nat.le_refl _)).alloc _).drew)
    have S7 : Hid (w.heap.size ≤ w7.heap.size) := F7.out.size
    simp only [hNB]
    rw [hw7]
    clear hw7 hNB hx hX fX hne H1 HB hln hgw c0
    obtain ⟨i0, hi, hz0, hz1, hz2⟩ := info_parts info_ver
    have ho := H7.out.own
    have hne := own_ne H7.out.own H7.out.blk (by decide)
    have c0 := H7.out.blk.cell 0
    simp only [List.getElem?_cons_zero, List.length_append, List.length_singleton] at c0
    have f0 := H7.out.blk.frozen 0
    have k0 := K7.out.cell 0
    have k1 := K7.out.cell 1
    have k2 := K7.out.cell 2
    have kg := K7.out.cell 3
    simp only [List.getElem?_cons_zero, List.getElem?_cons_succ] at k0 k1 k2 kg
    have hlt := H7.out.blk.lt
    have HB7 := hid H7.out.blk
    simp only [List.length_append, List.length_singleton] at ho hne
    go_region_law (first | (refine step_append_lies _ (by rfl) _ _ _ (by rfl) 0 272 i0 _ 4 64 Tryz.underlying270 hi hz0 hz1 hz2 rfl (by omega) (.slice (some ⟨g, 0, none⟩) (l'.length + 1) cap) (l'.length + 1) (encVers (l' ++ [y])) (by rfl) ((ho.alloc _).drew) ⟨w7.heap.size, 0, none⟩ 1 1 [.int .i64 t, .slice v.la v.ln v.lc, .slice v.pa v.pn v.pc, .bool gone] (by rfl) (by rfl) (World.news_of_block (cs := #[.int .i64 t, .slice v.la v.ln v.lc, .slice v.pa v.pn v.pc, .bool gone]) (t := 272) (fr := (0, 0)) (heap_alloc_new w7 _)) (by simp [Value.oneCell']) (by omega) (by have := HN.out; unfold maxLen; simp only [List.length_append, List.length_singleton] at this; omega) (by have := HN.out; simp only [List.length_append, List.length_singleton] at this; omega) (by simp) (w7.heap.size + 1) (by simp) ?_; intro gg cap2 w3 hown3 hgrow hat hlt3; have d0 := ((HB7.out.alloc _).drew.grown hgrow hne).cell 0; have e0 := ((HB7.out.alloc _).drew.grown hgrow hne).frozen 0; simp only [List.getElem?_cons_zero, List.length_append, List.length_singleton] at d0))
    all_goals
      go_wp2
      go_ret
      have hB3 := (HB7.out.alloc (.cells #[.int .i64 t, .slice v.la v.ln v.lc, .slice v.pa v.pn v.pc, .bool gone] 272)).drew.grown hgrow hne
      exact ⟨rfl, some ⟨gg, 0, none⟩, cap2, by have := cel_pushed (l := l' ++ [y]) hB3 (by simpa using hown3); simpa using this, began_sub S7.out hat, ((F7.out.alloc _).drew.grown hgrow (fun k hk => .inl (by simp [hk]))).setCell (.inl (by simp)) _⟩

end Go.Proofs.YtdfkdgnhpdgphaaGreatDoor.Nod
