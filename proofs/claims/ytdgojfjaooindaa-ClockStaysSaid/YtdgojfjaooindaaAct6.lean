/-
  The contract of ligaturelaw6.act: an act in both clocks: they do not part.
-/
import Derived.Test.YtdgojfjaooindaaRefS
import Derived.Deep.RegionHeld3
namespace Go.Proofs.Ytdgojfjaooindaa
open Go.RowKit Go.Proofs.Lig

/-- What an act makes of a clock. -/
def actC (c : Clk) (k t : Int) : Clk :=
  if k = 1 then (if 4 ≤ c.count then c else c.began) else if k = 2 then (if c.live t then c.committed t else c) else (if c.live t then c.dropped t else c)
theorem good_act {c : Clk} (h : c.Good) (k t : Int) : (actC c k t).Good := by
  unfold actC
  split
  · split; exact h; exact h.began
  · split
    · split; exact h.committed t; exact h
    · split; exact h.dropped t; exact h
theorem len_act (c : Clk) (k t : Int) : (actC c k t).l.length ≤ c.l.length + 1 := by
  unfold actC
  split
  · split; omega; simp [Clk.began]
  · split
    · split; rw [Clk.length_committed]; omega; omega
    · split; rw [Clk.length_dropped]; omega; omega
theorem n_act (c : Clk) (k t : Int) : (actC c k t).n ≤ c.n + 1 := by
  unfold actC
  split
  · split; omega; simp [Clk.began]
  · split
    · split; exact Clk.n_committed c t; omega
    · split; rw [Clk.n_dropped]; omega; omega

abbrev bothT : List TypeId := clkT ++ refT
section
variable {N : Nat} {w0 w w' w'' : World} {B R : Nat} {c c' : Clk}
theorem ClkN.keep {ts : List TypeId} (h : ClkN N w0 w B c) (hf : TFr ts w w') (hb : Below N w0 w') (hd : ∀ t ∈ clkT, t ∉ ts) : ClkN N w0 w' B c := by
  obtain ⟨hl, hw, S, hc, hs⟩ := h
  exact ⟨hl, hb, S, hc.tfr hf hd, hs⟩
theorem RefN.keep {ts : List TypeId} (h : RefN N w0 w R c) (hf : TFr ts w w') (hb : Below N w0 w') (hd : ∀ t ∈ refT, t ∉ ts) : RefN N w0 w' R c := by
  obtain ⟨hl, hw, S, hc, hs⟩ := h
  exact ⟨hl, hb, S, hc.tfr hf hd, hs⟩
theorem ClkN.drewN (h : ClkN N w0 w B c) (n : Nat) : ClkN N w0 (w.drewN n) B c := h.step (below_drewN w n)
theorem RefN.drewN (h : RefN N w0 w R c) (n : Nat) : RefN N w0 (w.drewN n) R c := h.step (below_drewN w n)
theorem Both.step (h : Both N w0 w B R c) (hb : Below w.heap.size w w') : Both N w0 w' B R c := ⟨h.clk.step hb, h.ref.step hb⟩
end

section
variable {N : Nat} {w0 w : World} {B R : Nat} {c : Clk}
abbrev actV (k t : Int) : Value := .agg #[.int .i64 k, .int .i64 t]

set_option maxHeartbeats 1000000 in
theorem act_begin (h : Both N w0 w B R c) (hlen : c.l.length ≤ 1000000) (t : Int) :
    Calls Try.prog 25 #[.pointer (some ⟨B, 0, none⟩), .pointer (some ⟨R, 0, none⟩), actV 1 t] w fun e w' => e = .returned (.bool true) ∧ Both N w0 w' B R (if 4 ≤ c.count then c else c.began) ∧ TFr bothT w w' := by
  have hb0 : Below w.heap.size w (w.alloc (.cells #[.int .i64 1, .int .i64 t] 39)) := (Below.refl _ _).alloc (Nat.le_refl _) _
  have H := hid (h.step hb0)
  have HB := hid hb0
  clear h hb0
  by_cases hf : 4 ≤ c.count
  · rw [if_pos hf]
    have HF := hid hf
    have HL := hid hlen
    clear hf hlen
    go_enter Try.func25, Try.ntmps25
    go_wp2_with fail
    refine (begin_full_N H.out.clk HF.out).mono ?_
    rintro e w2 ⟨rfl, q2, t2⟩
    have R2 := hid (H.out.ref.keep t2 q2.below (by decide))
    have Q2 := hid q2
    have T2 := hid t2
    clear q2 t2
    go_wp2_with fail
    refine (r_begin_full_N R2.out HF.out).mono ?_
    rintro e w3 ⟨rfl, rfl⟩
    go_wp2_with fail
    go_ret
    exact ⟨rfl, ⟨Q2.out, R2.out⟩, (TFr.of_below HB.out).trans (T2.out.mono (by decide))⟩
  · rw [if_neg hf]
    have HF := hid (show c.count < 4 by omega)
    have HL := hid hlen
    clear hf hlen
    go_enter Try.func25, Try.ntmps25
    go_wp2_with fail
    refine (begin_N H.out.clk HF.out HL.out _ rfl).mono ?_
    rintro e w2 ⟨rfl, q2, t2⟩
    have R2 := hid (H.out.ref.keep t2 q2.below (by decide))
    have Q2 := hid q2
    have T2 := hid t2
    clear q2 t2
    go_wp2_with fail
    refine (r_begin_N R2.out HF.out HL.out _ rfl).mono ?_
    rintro e w3 ⟨rfl, q3, t3⟩
    have Q3 := hid (Q2.out.keep t3 q3.below (by decide))
    have R3 := hid q3
    have T3 := hid t3
    clear q3 t3
    go_wp2_with fail
    go_ret
    exact ⟨by simp, ⟨Q3.out, R3.out⟩, ((TFr.of_below HB.out).trans (T2.out.mono (by decide))).trans (T3.out.mono (by decide))⟩

set_option maxHeartbeats 1000000 in
theorem act_commit_ok (h : Both N w0 w B R c) (hn : c.n ≤ 1000000) (t : Int) (hl : c.live t = true) :
    Calls Try.prog 25 #[.pointer (some ⟨B, 0, none⟩), .pointer (some ⟨R, 0, none⟩), actV 2 t] w fun e w' => e = .returned (.bool true) ∧ Both N w0 w' B R (c.committed t) ∧ TFr bothT w w' := by
  have hb0 : Below w.heap.size w (w.alloc (.cells #[.int .i64 2, .int .i64 t] 39)) := (Below.refl _ _).alloc (Nat.le_refl _) _
  have H := hid (h.step hb0)
  have HB := hid hb0
  have HL := hid hl
  have HK : Hid (Blk (w.alloc (.cells #[.int .i64 2, .int .i64 t] 39)) w.heap.size 39 [.int .i64 2, .int .i64 t]) := Blk.new w _ _
  have HN := hid hn
  clear hn
  clear h hb0 hl
  go_enter Try.func25, Try.ntmps25
  go_wp2_with fail
  go_region_held3 (fun w' => w'.cell? ⟨w.heap.size, 1, none⟩ = some (.int .i64 t))
    (first
      | exact HK.out.cell 1
      | exact (HK.out.tfr ta (by decide)).cell 1
      | exact ((HK.out.tfr ta (by decide)).tfr tb (by decide)).cell 1
      | go_keep)
    (first
      | (go_at_call 19; refine (commit_N (N := N) (w0 := w0) (B := B) (c := c) (by exact H.out.clk.drewN 1) t HL.out HN.out).mono ?_; rintro e wa ⟨rfl, qa, ta⟩)
      | (go_at_call 55; refine (r_commit_N (N := N) (w0 := w0) (B := R) (c := c) (by exact (H.out.ref.drewN 1).keep ta qa.below (by decide)) t HL.out HN.out).mono ?_; rintro e wb ⟨rfl, qb, tb⟩))
  go_wp2
  go_ret
  exact ⟨by simp, ⟨qa.keep tb qb.below (by decide), qb⟩, ((TFr.of_below HB.out.drew).trans (ta.mono (by decide))).trans (tb.mono (by decide))⟩

set_option maxHeartbeats 1000000 in
theorem act_commit_not (h : Both N w0 w B R c) (t : Int) (hl : c.live t = false) :
    Calls Try.prog 25 #[.pointer (some ⟨B, 0, none⟩), .pointer (some ⟨R, 0, none⟩), actV 2 t] w fun e w' => e = .returned (.bool true) ∧ Both N w0 w' B R (c) ∧ TFr bothT w w' := by
  have hb0 : Below w.heap.size w (w.alloc (.cells #[.int .i64 2, .int .i64 t] 39)) := (Below.refl _ _).alloc (Nat.le_refl _) _
  have H := hid (h.step hb0)
  have HB := hid hb0
  have HL := hid hl
  have HK : Hid (Blk (w.alloc (.cells #[.int .i64 2, .int .i64 t] 39)) w.heap.size 39 [.int .i64 2, .int .i64 t]) := Blk.new w _ _
  clear h hb0 hl
  go_enter Try.func25, Try.ntmps25
  go_wp2_with fail
  go_region_held3 (fun w' => w'.cell? ⟨w.heap.size, 1, none⟩ = some (.int .i64 t))
    (first
      | exact HK.out.cell 1
      | go_keep)
    (first
      | (go_at_call 19; refine (commit_not_N (N := N) (w0 := w0) (B := B) (c := c) (by exact H.out.clk.drewN 1) t HL.out).mono ?_; rintro e wa ⟨rfl, rfl⟩)
      | (go_at_call 55; refine (r_commit_not_N (N := N) (w0 := w0) (B := R) (c := c) (by exact H.out.ref.drewN 1) t HL.out).mono ?_; rintro e wb ⟨rfl, rfl⟩))
  go_wp2
  go_ret
  exact ⟨by simp, ⟨H.out.clk.drewN 1, H.out.ref.drewN 1⟩, TFr.of_below HB.out.drew⟩

set_option maxHeartbeats 1000000 in
theorem act_abort_ok (h : Both N w0 w B R c) (hg : c.Good) (k t : Int) (h1 : k ≠ 1) (h2 : k ≠ 2) (hl : c.live t = true) :
    Calls Try.prog 25 #[.pointer (some ⟨B, 0, none⟩), .pointer (some ⟨R, 0, none⟩), actV k t] w fun e w' => e = .returned (.bool true) ∧ Both N w0 w' B R (c.dropped t) ∧ TFr bothT w w' := by
  have hb0 : Below w.heap.size w (w.alloc (.cells #[.int .i64 k, .int .i64 t] 39)) := (Below.refl _ _).alloc (Nat.le_refl _) _
  have H := hid (h.step hb0)
  have HB := hid hb0
  have HL := hid hl
  have HK : Hid (Blk (w.alloc (.cells #[.int .i64 k, .int .i64 t] 39)) w.heap.size 39 [.int .i64 k, .int .i64 t]) := Blk.new w _ _
  have k1 : (k == 1) = false := by simp [h1]
  have k2 : (k == 2) = false := by simp [h2]
  clear h1 h2
  have HG := hid hg
  clear hg
  clear h hb0 hl
  go_enter Try.func25, Try.ntmps25
  go_wp2_with fail
  go_region_held3 (fun w' => w'.cell? ⟨w.heap.size, 1, none⟩ = some (.int .i64 t))
    (first
      | exact HK.out.cell 1
      | exact (HK.out.tfr ta (by decide)).cell 1
      | exact ((HK.out.tfr ta (by decide)).tfr tb (by decide)).cell 1
      | go_keep)
    (first
      | (go_at_call 27; refine (abort_N (N := N) (w0 := w0) (B := B) (c := c) (by exact H.out.clk.drewN 1) t HL.out HG.out).mono ?_; rintro e wa ⟨rfl, qa, ta⟩)
      | (go_at_call 56; refine (r_abort_N (N := N) (w0 := w0) (B := R) (c := c) (by exact (H.out.ref.drewN 1).keep ta qa.below (by decide)) t HL.out).mono ?_; rintro e wb ⟨rfl, qb, tb⟩))
  go_wp2
  go_ret
  exact ⟨by simp, ⟨qa.keep tb qb.below (by decide), qb⟩, ((TFr.of_below HB.out.drew).trans (ta.mono (by decide))).trans (tb.mono (by decide))⟩

set_option maxHeartbeats 1000000 in
theorem act_abort_not (h : Both N w0 w B R c) (k t : Int) (h1 : k ≠ 1) (h2 : k ≠ 2) (hl : c.live t = false) :
    Calls Try.prog 25 #[.pointer (some ⟨B, 0, none⟩), .pointer (some ⟨R, 0, none⟩), actV k t] w fun e w' => e = .returned (.bool true) ∧ Both N w0 w' B R (c) ∧ TFr bothT w w' := by
  have hb0 : Below w.heap.size w (w.alloc (.cells #[.int .i64 k, .int .i64 t] 39)) := (Below.refl _ _).alloc (Nat.le_refl _) _
  have H := hid (h.step hb0)
  have HB := hid hb0
  have HL := hid hl
  have HK : Hid (Blk (w.alloc (.cells #[.int .i64 k, .int .i64 t] 39)) w.heap.size 39 [.int .i64 k, .int .i64 t]) := Blk.new w _ _
  have k1 : (k == 1) = false := by simp [h1]
  have k2 : (k == 2) = false := by simp [h2]
  clear h1 h2
  clear h hb0 hl
  go_enter Try.func25, Try.ntmps25
  go_wp2_with fail
  go_region_held3 (fun w' => w'.cell? ⟨w.heap.size, 1, none⟩ = some (.int .i64 t))
    (first
      | exact HK.out.cell 1
      | go_keep)
    (first
      | (go_at_call 27; refine (abort_not_N (N := N) (w0 := w0) (B := B) (c := c) (by exact H.out.clk.drewN 1) t HL.out).mono ?_; rintro e wa ⟨rfl, rfl⟩)
      | (go_at_call 56; refine (r_abort_not_N (N := N) (w0 := w0) (B := R) (c := c) (by exact H.out.ref.drewN 1) t HL.out).mono ?_; rintro e wb ⟨rfl, rfl⟩))
  go_wp2
  go_ret
  exact ⟨by simp, ⟨H.out.clk.drewN 1, H.out.ref.drewN 1⟩, TFr.of_below HB.out.drew⟩

/-- An act in both: they do not part. -/
theorem act_any (h : Both N w0 w B R c) (hg : c.Good) (hlen : c.l.length ≤ 1000000) (hn : c.n ≤ 1000000) (k t : Int) :
    Calls Try.prog 25 #[.pointer (some ⟨B, 0, none⟩), .pointer (some ⟨R, 0, none⟩), actV k t] w fun e w' => e = .returned (.bool true) ∧ Both N w0 w' B R (actC c k t) ∧ TFr bothT w w' := by
  unfold actC
  by_cases h1 : k = 1
  · subst h1
    rw [if_pos rfl]
    exact act_begin h hlen t
  · rw [if_neg h1]
    by_cases h2 : k = 2
    · subst h2
      rw [if_pos rfl]
      cases hl : c.live t
      · exact act_commit_not h t hl
      · exact act_commit_ok h hn t hl
    · rw [if_neg h2]
      cases hl : c.live t
      · exact act_abort_not h k t h1 h2 hl
      · exact act_abort_ok h hg k t h1 h2 hl
end
end Go.Proofs.Ytdgojfjaooindaa
