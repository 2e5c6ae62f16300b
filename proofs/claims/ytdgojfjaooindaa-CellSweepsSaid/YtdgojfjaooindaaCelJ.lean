/-
  A clock and a cell of ints side by side: contracts.
-/
import Derived.Test.YtdgojfjaooindaaCelE
import Derived.Test.YtdgojfjaooindaaCelI
namespace Go.Proofs.Ytdgojfjaooindaa
open Go.RowKit Go.Proofs.Lig

/-- The clock c lies in block B and the cell l in block X, all of it at N or beyond, of a world that has not turned what lay below N. -/
structure CC (N : Nat) (w0 w : World) (B : Nat) (c : Clk) (X : Nat) (l : List (Ver Int)) : Prop where
  clk : ClkN N w0 w B c
  cel : ∃ S, CelS w X S l ∧ ∀ k ∈ S, N ≤ k

section
variable {N : Nat} {w0 w w' : World} {B : Nat} {c c' : Clk} {X : Nat} {l l' : List (Ver Int)}
theorem CC.step (h : CC N w0 w B c X l) (hb : Below w.heap.size w w') : CC N w0 w' B c X l := by
  obtain ⟨hc, S, hl, hs⟩ := h
  exact ⟨hc.step hb, S, hl.tfr (ts := []) (.of_below hb) (by simp), hs⟩
theorem CC.size (h : CC N w0 w B c X l) : N ≤ w.heap.size := Nat.le_trans h.clk.lo h.clk.below.size
theorem CC.ofClk (h : CC N w0 w B c X l) (hc : ClkN N w0 w' B c') (hf : TFr clkT w w') : CC N w0 w' B c' X l := by
  obtain ⟨_, S, hl, hs⟩ := h
  exact ⟨hc, S, hl.tfr hf (by decide), hs⟩
theorem CC.ofCel (h : CC N w0 w B c X l) {S S' : List Nat} (hl : CelS w X S l) (hs : ∀ k ∈ S, N ≤ k) (hl' : CelS w' X S' l') (hsub : Sub S' S w.heap.size) (hf : Fr S w w') : CC N w0 w' B c X l' :=
  ⟨h.clk.tfr (.of_fr hf hl.typed) (hf.below h.size hs) (by decide), S', hl', fun k hk => by
    rcases hsub k hk with h1 | h1
    · exact hs k h1
    · exact Nat.le_trans h.size h1⟩

theorem new_C (h : ClkN N w0 w B c) : Calls Try.prog 41 #[] w fun e w' => e = .returned (.pointer (some ⟨w.heap.size, 0, none⟩)) ∧ CC N w0 w' B c w.heap.size [] := by
  refine (cel_new w).mono ?_
  rintro e w' ⟨rfl, rfl⟩
  exact ⟨rfl, h.step ((Below.refl _ _).alloc (Nat.le_refl _) _), [w.heap.size], ⟨none, 0, ⟨Blk.new w _ _, World.ownsRow_nil _ _ _ _⟩, rfl⟩, fun k hk => by
    have : k = w.heap.size := by simpa using hk
    subst this
    exact Nat.le_trans h.lo h.below.size⟩
theorem begin_C (h : CC N w0 w B c X l) (hf : c.count < 4) (hn : c.l.length ≤ 1000000) (v : Int) (hv : (c.l.length : Int) + 1 = v) :
    Calls Try.prog 18 #[.pointer (some ⟨B, 0, none⟩)] w fun e w' => e = .returned (.tuple #[.int .i64 v, .int .i64 0]) ∧ CC N w0 w' B c.began X l :=
  (begin_N h.clk hf hn v hv).mono fun _ _ ⟨he, h', hf⟩ => ⟨he, h.ofClk h' hf⟩
theorem commit_C (h : CC N w0 w B c X l) (t : Int) (hlv : c.live t = true) (hn : c.n ≤ 1000000) :
    Calls Try.prog 19 #[.pointer (some ⟨B, 0, none⟩), .int .i64 t] w fun e w' => e = .returned (.int .i64 0) ∧ CC N w0 w' B (c.committed t) X l :=
  (commit_N h.clk t hlv hn).mono fun _ _ ⟨he, h', hf⟩ => ⟨he, h.ofClk h' hf⟩
theorem abort_C (h : CC N w0 w B c X l) (t : Int) (hlv : c.live t = true) (hg : c.Good) :
    Calls Try.prog 27 #[.pointer (some ⟨B, 0, none⟩), .int .i64 t] w fun e w' => e = .returned (.int .i64 0) ∧ CC N w0 w' B (c.dropped t) X l :=
  (abort_N h.clk t hlv hg).mono fun _ _ ⟨he, h', hf⟩ => ⟨he, h.ofClk h' hf⟩
theorem len_C (h : CC N w0 w B c X l) (v : Int) (hv : (l.length : Int) = v) :
    Calls Try.prog 47 #[.pointer (some ⟨X, 0, none⟩)] w fun e w' => e = .returned (.int .i64 v) ∧ w = w' := by
  obtain ⟨S, ⟨A, cap, hl, rfl⟩, hs⟩ := h.cel
  rw [← hv]
  exact cel_len w X A cap l hl
theorem check_C (h : CC N w0 w B c X l) (hg : c.Good) (t : Int) (v : Int) (hv : (if Cel.blocked c l t then 6 else 0) = v) :
    Calls Try.prog 44 #[.pointer (some ⟨X, 0, none⟩), .pointer (some ⟨B, 0, none⟩), .int .i64 t] w fun e w' => e = .returned (.int .i64 v) ∧ Below w.heap.size w w' := by
  obtain ⟨S, ⟨A, cap, hl, rfl⟩, hs⟩ := h.cel
  obtain ⟨_, _, SC, hc, _⟩ := h.clk
  rw [← hv]
  cases hlast : l.getLast? with
  | none =>
    obtain rfl : l = [] := by simpa using hlast
    exact cel_check_empty w X A cap _ t hl
  | some y =>
    have := cel_check_some w X A cap l B SC c t y hl hc hg hlast _ rfl
    simpa only [Cel.blocked, hlast] using this
theorem write_no_C (h : CC N w0 w B c X l) (hg : c.Good) (t v : Int) (gone : Bool) (hb : Cel.blocked c l t = true) :
    Calls Try.prog 42 #[.pointer (some ⟨X, 0, none⟩), .pointer (some ⟨B, 0, none⟩), .int .i64 t, .int .i64 v, .bool gone] w fun e w' => e = .returned (.int .i64 6) ∧ CC N w0 w' B c X l :=
  (cel_write_clash w X (some ⟨B, 0, none⟩) t v gone 6 (by decide) (check_C h hg t 6 (by rw [hb]; rfl))).mono fun _ _ ⟨he, hb⟩ => ⟨he, h.step hb⟩
theorem write_C (h : CC N w0 w B c X l) (hg : c.Good) (t v : Int) (gone : Bool) (hb : Cel.blocked c l t = false) (hn : l.length ≤ 1000000) :
    Calls Try.prog 42 #[.pointer (some ⟨X, 0, none⟩), .pointer (some ⟨B, 0, none⟩), .int .i64 t, .int .i64 v, .bool gone] w fun e w' => e = .returned (.int .i64 0) ∧ CC N w0 w' B c X (Cel.written l t v gone) := by
  have hck := check_C h hg t 0 (by rw [hb]; rfl)
  obtain ⟨S, ⟨A, cap, hl, rfl⟩, hs⟩ := h.cel
  cases hm : Cel.mine l t
  · refine (cel_write_more w X A cap (some ⟨B, 0, none⟩) l t v gone hl hm hn hck).mono ?_
    rintro e w' ⟨he, A', cap', hl', hsub, hf⟩
    simp only [Cel.written, hm, Bool.false_eq_true, if_false]
    exact ⟨he, h.ofCel ⟨A, cap, hl, rfl⟩ hs ⟨A', cap', hl', rfl⟩ (by cases A' <;> exact hsub) hf⟩
  · obtain ⟨l', y, rfl⟩ : ∃ l' y, l = l' ++ [y] := by
      rcases List.eq_nil_or_concat l with rfl | ⟨l', y, rfl⟩
      · simp [Cel.mine] at hm
      · exact ⟨l', y, by simp⟩
    obtain ⟨g, rfl, _⟩ := hl.form (by simp)
    have hy : (y.who == t) = true := by simpa [Cel.mine] using hm
    refine (cel_write_mine w X g cap (some ⟨B, 0, none⟩) l' y t v gone hl hy hck).mono ?_
    rintro e w' ⟨he, hl', hf⟩
    simp only [Cel.written, hm, if_true, List.dropLast_concat]
    refine ⟨he, h.ofCel ⟨_, cap, hl, rfl⟩ hs ⟨_, cap, hl', rfl⟩ ?_ ?_⟩
    · simpa [Value.ownBlock] using Sub.refl [X, g] w.heap.size
    · simpa [Value.ownBlock] using hf
theorem spareB_C (h : CC N w0 w B c X l) (hg : c.Good) (v : Bool) (hv : decide (0 ≤ place (Cel.isSpare c l) l) = v) :
    Calls Try.prog 49 #[.pointer (some ⟨X, 0, none⟩), .pointer (some ⟨B, 0, none⟩)] w fun e w' => e = .returned (.bool v) ∧ CC N w0 w' B c X l := by
  obtain ⟨S, ⟨A, cap, hl, rfl⟩, hs⟩ := h.cel
  obtain ⟨_, _, SC, hc, _⟩ := h.clk
  exact (spareB_S w X A cap l B SC c hl hc hg v hv).mono fun _ _ ⟨he, hb⟩ => ⟨he, h.step hb⟩
theorem sweep_no_C (h : CC N w0 w B c X l) (hg : c.Good) (hv : place (Cel.isSpare c l) l = -1) :
    Calls Try.prog 48 #[.pointer (some ⟨X, 0, none⟩), .pointer (some ⟨B, 0, none⟩)] w fun e w' => e = .returned (.bool false) ∧ CC N w0 w' B c X l := by
  obtain ⟨S, ⟨A, cap, hl, rfl⟩, hs⟩ := h.cel
  obtain ⟨_, _, SC, hc, _⟩ := h.clk
  exact (sweep_not_S w X A cap l B SC c hl hc hg hv).mono fun _ _ ⟨he, hb⟩ => ⟨he, h.step hb⟩
theorem sweep_C (h : CC N w0 w B c X l) (hg : c.Good) (i : Nat) (hv : place (Cel.isSpare c l) l = (i : Int)) :
    Calls Try.prog 48 #[.pointer (some ⟨X, 0, none⟩), .pointer (some ⟨B, 0, none⟩)] w fun e w' => e = .returned (.bool true) ∧ CC N w0 w' B c X (Cel.swept c l) := by
  obtain ⟨S, hl, hs⟩ := h.cel
  obtain ⟨_, _, SC, hc, _⟩ := h.clk
  exact (sweep_S w X S l B SC c i hl hc hg hv).mono fun _ _ ⟨he, hl', hf⟩ => ⟨he, h.ofCel hl hs hl' (Sub.refl _ _) hf⟩

theorem read1_S (w : World) (T1 T2 : Nat) (B : Nat) (S : List Nat) (c : Clk) (t who : Int) (h1 : w.cell? ⟨T1, 0, none⟩ = some (.pointer (some ⟨B, 0, none⟩))) (h2 : w.cell? ⟨T2, 0, none⟩ = some (.int .i64 t)) (hc : ClkS w B S c) (hg : c.Good) :
    Calls Try.prog 62 #[.int .i64 who, .pointer (some ⟨T1, 0, none⟩), .pointer (some ⟨T2, 0, none⟩)] w fun e w' => e = .returned (.bool (c.sees t who)) ∧ Below w.heap.size w w' := by
  have HC := hid hc
  have HG := hid hg
  clear hc hg
  go_enter Try.func62, Try.ntmps62
  go_wp2_with (go_at_call 20; refine (sees_S _ B S c t who HC.out HG.out _ rfl).mono ?_; rintro e wa ⟨rfl, hb⟩)
  go_ret
  exact ⟨rfl, hb⟩

theorem read_S (w : World) (X : Nat) (A : Option Addr) (cap : Nat) (l : List (Ver Int)) (B : Nat) (S : List Nat) (c : Clk) (t : Int) (h : CelA w X A cap l) (hc : ClkS w B S c) (hg : c.Good) (v : Int) (ok : Bool) (hv : (Cel.lastBy (c.sees t) l).getD 0 = v) (hok : (Cel.lastBy (c.sees t) l).isSome = ok) :
    Calls Try.prog 43 #[.pointer (some ⟨X, 0, none⟩), .pointer (some ⟨B, 0, none⟩), .int .i64 t] w fun e w' => e = .returned (.tuple #[.int .i64 v, .bool ok]) ∧ Below w.heap.size w w' := by
  have hB : Below w.heap.size w ((w.alloc (.cells #[.pointer (some ⟨B, 0, none⟩)] 22)).alloc (.cells #[.int .i64 t] 3)) := ((Below.refl _ w).alloc (Nat.le_refl _) _).alloc (by simp) _
  have b1 := (Blk.new w 22 [.pointer (some ⟨B, 0, none⟩)]).alloc (.cells #[.int .i64 t] 3)
  have b2 := Blk.new (w.alloc (.cells #[.pointer (some ⟨B, 0, none⟩)] 22)) 3 [.int .i64 t]
  have k1 := b1.cell 0
  have k2 := b2.cell 0
  simp only [List.getElem?_cons_zero, World.size_alloc] at k1 k2
  have HL : Hid (Calls Try.prog 61 #[.pointer (some ⟨X, 0, none⟩), .func (.func 62) #[] #[.pointer (some ⟨w.heap.size, 0, none⟩), .pointer (some ⟨w.heap.size + 1, 0, none⟩)]] ((w.alloc (.cells #[.pointer (some ⟨B, 0, none⟩)] 22)).alloc (.cells #[.int .i64 t] 3)) fun e w' => e = .returned (.tuple #[.int .i64 v, .bool ok]) ∧ Below w.heap.size w w') := by
    refine (callsIn_wide.1 (cel_last_in Fence.wide (fun _ => trivial) rfl _ X A cap l #[.pointer (some ⟨w.heap.size, 0, none⟩), .pointer (some ⟨w.heap.size + 1, 0, none⟩)] (c.sees t) (h.below hB) (fun W who hb => callsIn_wide.2 ?_))).mono ?_
    · have hs := hb.size
      simp only [World.size_alloc] at hs
      rw [app2]
      exact read1_S W _ _ B S c t who ((hb.cell (p := ⟨w.heap.size, 0, none⟩) (by simp; try omega)).trans k1) ((hb.cell (p := ⟨w.heap.size + 1, 0, none⟩) (by simp)).trans k2) ((hc.below hB).below hb) hg
    · rintro e w' ⟨⟨v', he, hv'⟩, hb⟩
      rw [hok] at he
      rw [hv] at hv'
      subst hv'
      exact ⟨he, hB.trans (hb.mono (by simp; omega))⟩
  clear h hc hg hv hok hB b1 b2 k1 k2
  go_enter Try.func43, Try.ntmps43
  go_wp2_with (go_at_call 61; refine HL.out.mono ?_; rintro e w' ⟨rfl, hb1⟩)
  go_ret2
  exact ⟨rfl, hb1⟩
theorem read_C (h : CC N w0 w B c X l) (hg : c.Good) (t : Int) (v : Int) (ok : Bool) (hv : (Cel.lastBy (c.sees t) l).getD 0 = v) (hok : (Cel.lastBy (c.sees t) l).isSome = ok) :
    Calls Try.prog 43 #[.pointer (some ⟨X, 0, none⟩), .pointer (some ⟨B, 0, none⟩), .int .i64 t] w fun e w' => e = .returned (.tuple #[.int .i64 v, .bool ok]) ∧ CC N w0 w' B c X l := by
  obtain ⟨S, ⟨A, cap, hl, rfl⟩, hs⟩ := h.cel
  obtain ⟨_, _, SC, hc, _⟩ := h.clk
  exact (read_S w X A cap l B SC c t hl hc hg v ok hv hok).mono fun _ _ ⟨he, hb⟩ => ⟨he, h.step hb⟩
end
end Go.Proofs.Ytdgojfjaooindaa
