/-
  Contracts of package clock's functions over a clock with its footprint: the blocks that it lies in. What each returns is given by an equation, so that a caller may hand in a numeral.
-/
import Derived.Test.YtdgojfjaooindaaClkF
namespace Go.Proofs.Ytdgojfjaooindaa
open Go.RowKit Go.Proofs.Lig

/-- The clock c lies in block B; S are the blocks that it lies in. -/
def ClkS (w : World) (B : Nat) (S : List Nat) (c : Clk) : Prop := ∃ A cap, ClkA w B A cap c ∧ S = B :: (Value.slice A c.l.length cap).ownBlock.toList

theorem ClkS.fr {w w' : World} {B : Nat} {S S' : List Nat} {c : Clk} (h : ClkS w B S c) (hf : Fr S' w w') (hd : ∀ k ∈ S, k ∉ S') : ClkS w' B S c := by
  obtain ⟨A, cap, h, rfl⟩ := h
  exact ⟨A, cap, ⟨h.blk.fr hf (hd B (by simp)), own_fr h.own hf (fun k hk => hd k (by simp [hk]))⟩, rfl⟩
theorem ClkS.below {w w' : World} {B : Nat} {S : List Nat} {c : Clk} (h : ClkS w B S c) (hb : Below w.heap.size w w') : ClkS w' B S c :=
  h.fr (S' := []) (Fr.of_below hb (Nat.le_refl _)) (by simp)
theorem ClkS.lt {w : World} {B : Nat} {S : List Nat} {c : Clk} (h : ClkS w B S c) : ∀ k ∈ S, k < w.heap.size := by
  obtain ⟨A, cap, h, rfl⟩ := h
  intro k hk
  rcases List.mem_cons.1 hk with rfl | hk
  · exact h.blk.lt
  · exact own_lt h.own (by simpa using hk)
theorem ClkS.mem {w : World} {B : Nat} {S : List Nat} {c : Clk} (h : ClkS w B S c) : B ∈ S := by
  obtain ⟨A, cap, h, rfl⟩ := h
  simp

/-- The element types of the blocks that a clock lies in. -/
abbrev clkT : List TypeId := [77, 79]
theorem ClkS.typed {w : World} {B : Nat} {S : List Nat} {c : Clk} (h : ClkS w B S c) : ∀ k ∈ S, ∃ cs t fr, w.heap[k]? = some (.cells cs t fr) ∧ t ∈ clkT := by
  obtain ⟨A, cap, h, rfl⟩ := h
  intro k hk
  rcases List.mem_cons.1 hk with rfl | hk
  · exact ⟨_, _, _, h.blk, by simp⟩
  · have hk : (Value.slice A c.l.length cap).ownBlock = some k := by simpa using hk
    rcases h.own.2 with ⟨h0, _⟩ | ⟨g, cap', cur, hv, _, hh, _⟩
    · rw [h0] at hk; simp [Value.ownBlock] at hk
    · rw [hv] at hk
      have : g = k := by simpa [Value.ownBlock] using hk
      subst this
      exact ⟨_, _, _, hh, by simp⟩
theorem ClkS.tfr {w w' : World} {B : Nat} {S : List Nat} {c : Clk} {ts : List TypeId} (h : ClkS w B S c) (hf : TFr ts w w') (hd : ∀ t ∈ clkT, t ∉ ts) : ClkS w' B S c := by
  obtain ⟨A, cap, h, rfl⟩ := h
  exact ⟨A, cap, ⟨h.blk.tfr hf (hd _ (by simp)), own_tfr h.own hf (hd _ (by simp))⟩, rfl⟩

/-- .. and all of these blocks lie at N or beyond, of a world that has not turned what lay below N. -/
structure ClkN (N : Nat) (w0 w : World) (B : Nat) (c : Clk) : Prop where
  lo : N ≤ w0.heap.size
  below : Below N w0 w
  clk : ∃ S, ClkS w B S c ∧ ∀ k ∈ S, N ≤ k

theorem ClkN.step {N : Nat} {w0 w w' : World} {B : Nat} {c : Clk} (h : ClkN N w0 w B c) (hb : Below w.heap.size w w') : ClkN N w0 w' B c := by
  obtain ⟨hl, hw, S, hc, hs⟩ := h
  exact ⟨hl, hw.trans (hb.mono (Nat.le_trans hl hw.size)), S, hc.below hb, hs⟩
theorem ClkN.tfr {N : Nat} {w0 w w' : World} {B : Nat} {c : Clk} {ts : List TypeId} (h : ClkN N w0 w B c) (hf : TFr ts w w') (hb : Below N w w') (hd : ∀ t ∈ clkT, t ∉ ts) : ClkN N w0 w' B c := by
  obtain ⟨hl, hw, S, hc, hs⟩ := h
  exact ⟨hl, hw.trans hb, S, hc.tfr hf hd, hs⟩
theorem ClkN.turn {N : Nat} {w0 w w' : World} {B : Nat} {S S' : List Nat} {c' : Clk} (hl : N ≤ w0.heap.size) (hw : Below N w0 w) (hs : ∀ k ∈ S, N ≤ k) (hc : ClkS w' B S' c') (hsub : Sub S' S w.heap.size) (hf : Fr S w w') : ClkN N w0 w' B c' :=
  ⟨hl, hw.trans (hf.below (Nat.le_trans hl hw.size) hs), S', hc, fun k hk => by
    rcases hsub k hk with h1 | h1
    · exact hs k h1
    · exact Nat.le_trans (Nat.le_trans hl hw.size) h1⟩

theorem new_S (w : World) : Calls Try.prog 17 #[] w fun e w' => e = .returned (.pointer (some ⟨w.heap.size, 0, none⟩)) ∧ ClkS w' w.heap.size [w.heap.size] Clk.new ∧ Below w.heap.size w w' :=
  (new_any w).mono fun _ _ ⟨he, hc, hw⟩ => ⟨he, ⟨none, 0, hc, rfl⟩, by rw [hw]; exact (Below.refl _ _).alloc (Nat.le_refl _) _⟩
theorem count_S (w : World) (B : Nat) (S : List Nat) (c : Clk) (h : ClkS w B S c) (v : Int) (hv : (c.count : Int) = v) :
    Calls Try.prog 28 #[.pointer (some ⟨B, 0, none⟩)] w fun e w' => e = .returned (.int .i64 v) ∧ Below w.heap.size w w' := by
  obtain ⟨A, cap, h, rfl⟩ := h
  rw [← hv]
  exact count_any w B A cap c h
theorem begin_full_S (w : World) (B : Nat) (S : List Nat) (c : Clk) (h : ClkS w B S c) (hf : 4 ≤ c.count) :
    Calls Try.prog 18 #[.pointer (some ⟨B, 0, none⟩)] w fun e w' => e = .returned (.tuple #[.int .i64 0, .int .i64 3]) ∧ Below w.heap.size w w' := by
  obtain ⟨A, cap, h, rfl⟩ := h
  exact begin_full w B A cap c h hf
theorem begin_S (w : World) (B : Nat) (S : List Nat) (c : Clk) (h : ClkS w B S c) (hf : c.count < 4) (hn : c.l.length ≤ 1000000) (v : Int) (hv : (c.l.length : Int) + 1 = v) :
    Calls Try.prog 18 #[.pointer (some ⟨B, 0, none⟩)] w fun e w' => e = .returned (.tuple #[.int .i64 v, .int .i64 0]) ∧
      ∃ S', ClkS w' B S' c.began ∧ Sub S' S w.heap.size ∧ Fr S w w' := by
  obtain ⟨A, cap, h, rfl⟩ := h
  rw [← hv]
  refine (begin_ok w B A cap c h hf hn).mono ?_
  rintro e w' ⟨he, A', cap', h', hs, hfr⟩
  exact ⟨he, _, ⟨A', cap', h', rfl⟩, hs, hfr⟩
theorem live_S (w : World) (B : Nat) (S : List Nat) (c : Clk) (t : Int) (h : ClkS w B S c) (v : Bool) (hv : c.live t = v) :
    Calls Try.prog 23 #[.pointer (some ⟨B, 0, none⟩), .int .i64 t] w fun e w' => e = .returned (.bool v) ∧ w = w' := by
  obtain ⟨A, cap, h, rfl⟩ := h
  rw [← hv]
  exact live_any w B A cap c t h
theorem aborted_S (w : World) (B : Nat) (S : List Nat) (c : Clk) (t : Int) (h : ClkS w B S c) (v : Bool) (hv : c.aborted t = v) :
    Calls Try.prog 31 #[.pointer (some ⟨B, 0, none⟩), .int .i64 t] w fun e w' => e = .returned (.bool v) ∧ w = w' := by
  obtain ⟨A, cap, h, rfl⟩ := h
  rw [← hv]
  exact aborted_any w B A cap c t h
theorem sees_S (w : World) (B : Nat) (S : List Nat) (c : Clk) (t b : Int) (h : ClkS w B S c) (hg : c.Good) (v : Bool) (hv : c.sees t b = v) :
    Calls Try.prog 20 #[.pointer (some ⟨B, 0, none⟩), .int .i64 t, .int .i64 b] w fun e w' => e = .returned (.bool v) ∧ Below w.heap.size w w' := by
  obtain ⟨A, cap, h, rfl⟩ := h
  rw [← hv]
  exact sees_any w B A cap c t b h hg
theorem clashes_S (w : World) (B : Nat) (S : List Nat) (c : Clk) (t b : Int) (h : ClkS w B S c) (hg : c.Good) (v : Bool) (hv : c.clashes t b = v) :
    Calls Try.prog 22 #[.pointer (some ⟨B, 0, none⟩), .int .i64 t, .int .i64 b] w fun e w' => e = .returned (.bool v) ∧ Below w.heap.size w w' := by
  obtain ⟨A, cap, h, rfl⟩ := h
  rw [← hv]
  exact clashes_any w B A cap c t b h hg
theorem settled_S (w : World) (B : Nat) (S : List Nat) (c : Clk) (b : Int) (h : ClkS w B S c) (hg : c.Good) (v : Bool) (hv : c.settled b = v) :
    Calls Try.prog 21 #[.pointer (some ⟨B, 0, none⟩), .int .i64 b] w fun e w' => e = .returned (.bool v) ∧ Below w.heap.size w w' := by
  obtain ⟨A, cap, h, rfl⟩ := h
  rw [← hv]
  exact settled_any w B A cap c b h hg
theorem commit_not_S (w : World) (B : Nat) (S : List Nat) (c : Clk) (t : Int) (h : ClkS w B S c) (hl : c.live t = false) :
    Calls Try.prog 19 #[.pointer (some ⟨B, 0, none⟩), .int .i64 t] w fun e w' => e = .returned (.int .i64 5) ∧ w = w' := by
  obtain ⟨A, cap, h, rfl⟩ := h
  exact commit_not w B A cap c t h hl
theorem abort_not_S (w : World) (B : Nat) (S : List Nat) (c : Clk) (t : Int) (h : ClkS w B S c) (hl : c.live t = false) :
    Calls Try.prog 27 #[.pointer (some ⟨B, 0, none⟩), .int .i64 t] w fun e w' => e = .returned (.int .i64 5) ∧ w = w' := by
  obtain ⟨A, cap, h, rfl⟩ := h
  exact abort_not w B A cap c t h hl
theorem commit_S (w : World) (B : Nat) (S : List Nat) (c : Clk) (t : Int) (h : ClkS w B S c) (hl : c.live t = true) (hn : c.n ≤ 1000000) :
    Calls Try.prog 19 #[.pointer (some ⟨B, 0, none⟩), .int .i64 t] w fun e w' => e = .returned (.int .i64 0) ∧ ClkS w' B S (c.committed t) ∧ Fr S w w' := by
  obtain ⟨A, cap, h, rfl⟩ := h
  refine (commit_ok w B A cap c t h hl hn).mono ?_
  rintro e w' ⟨he, h', hf⟩
  exact ⟨he, ⟨A, cap, h', by rw [Clk.length_committed]⟩, hf⟩
theorem abort_S (w : World) (B : Nat) (S : List Nat) (c : Clk) (t : Int) (h : ClkS w B S c) (hl : c.live t = true) (hg : c.Good) :
    Calls Try.prog 27 #[.pointer (some ⟨B, 0, none⟩), .int .i64 t] w fun e w' => e = .returned (.int .i64 0) ∧ ClkS w' B S (c.dropped t) ∧ Fr S w w' := by
  obtain ⟨A, cap, h, rfl⟩ := h
  refine (abort_ok w B A cap c t h hl hg).mono ?_
  rintro e w' ⟨he, h', hf⟩
  exact ⟨he, ⟨A, cap, h', by rw [Clk.length_dropped]⟩, hf⟩

/-! ### The same over 'ClkN' -/
section
variable {N : Nat} {w0 w : World} {B : Nat} {c : Clk}
theorem new_N (w : World) : Calls Try.prog 17 #[] w fun e w' => e = .returned (.pointer (some ⟨w.heap.size, 0, none⟩)) ∧ ClkN w.heap.size w w' w.heap.size Clk.new ∧ TFr clkT w w' :=
  (new_S w).mono fun _ _ ⟨he, hc, hb⟩ => ⟨he, ⟨Nat.le_refl _, hb, _, hc, by simp⟩, .of_below hb⟩
theorem begin_N (h : ClkN N w0 w B c) (hf : c.count < 4) (hn : c.l.length ≤ 1000000) (v : Int) (hv : (c.l.length : Int) + 1 = v) :
    Calls Try.prog 18 #[.pointer (some ⟨B, 0, none⟩)] w fun e w' => e = .returned (.tuple #[.int .i64 v, .int .i64 0]) ∧ ClkN N w0 w' B c.began ∧ TFr clkT w w' := by
  obtain ⟨hl, hw, S, hc, hs⟩ := h
  refine (begin_S w B S c hc hf hn v hv).mono ?_
  rintro e w' ⟨he, S', hc', hs', hfr⟩
  exact ⟨he, ClkN.turn hl hw hs hc' hs' hfr, .of_fr hfr hc.typed⟩
theorem begin_full_N (h : ClkN N w0 w B c) (hf : 4 ≤ c.count) :
    Calls Try.prog 18 #[.pointer (some ⟨B, 0, none⟩)] w fun e w' => e = .returned (.tuple #[.int .i64 0, .int .i64 3]) ∧ ClkN N w0 w' B c ∧ TFr clkT w w' := by
  obtain ⟨S, hc, hs⟩ := h.clk
  exact (begin_full_S w B S c hc hf).mono fun _ _ ⟨he, hb⟩ => ⟨he, h.step hb, .of_below hb⟩
theorem commit_N (h : ClkN N w0 w B c) (t : Int) (hlv : c.live t = true) (hn : c.n ≤ 1000000) :
    Calls Try.prog 19 #[.pointer (some ⟨B, 0, none⟩), .int .i64 t] w fun e w' => e = .returned (.int .i64 0) ∧ ClkN N w0 w' B (c.committed t) ∧ TFr clkT w w' := by
  obtain ⟨hl, hw, S, hc, hs⟩ := h
  exact (commit_S w B S c t hc hlv hn).mono fun _ _ ⟨he, h', hf⟩ => ⟨he, ClkN.turn hl hw hs h' (Sub.refl _ _) hf, .of_fr hf hc.typed⟩
theorem abort_N (h : ClkN N w0 w B c) (t : Int) (hlv : c.live t = true) (hg : c.Good) :
    Calls Try.prog 27 #[.pointer (some ⟨B, 0, none⟩), .int .i64 t] w fun e w' => e = .returned (.int .i64 0) ∧ ClkN N w0 w' B (c.dropped t) ∧ TFr clkT w w' := by
  obtain ⟨hl, hw, S, hc, hs⟩ := h
  exact (abort_S w B S c t hc hlv hg).mono fun _ _ ⟨he, h', hf⟩ => ⟨he, ClkN.turn hl hw hs h' (Sub.refl _ _) hf, .of_fr hf hc.typed⟩
theorem commit_not_N (h : ClkN N w0 w B c) (t : Int) (hlv : c.live t = false) :
    Calls Try.prog 19 #[.pointer (some ⟨B, 0, none⟩), .int .i64 t] w fun e w' => e = .returned (.int .i64 5) ∧ w = w' := by
  obtain ⟨S, hc, hs⟩ := h.clk
  exact commit_not_S w B S c t hc hlv
theorem abort_not_N (h : ClkN N w0 w B c) (t : Int) (hlv : c.live t = false) :
    Calls Try.prog 27 #[.pointer (some ⟨B, 0, none⟩), .int .i64 t] w fun e w' => e = .returned (.int .i64 5) ∧ w = w' := by
  obtain ⟨S, hc, hs⟩ := h.clk
  exact abort_not_S w B S c t hc hlv
theorem count_N (h : ClkN N w0 w B c) (v : Int) (hv : (c.count : Int) = v) :
    Calls Try.prog 28 #[.pointer (some ⟨B, 0, none⟩)] w fun e w' => e = .returned (.int .i64 v) ∧ ClkN N w0 w' B c ∧ TFr clkT w w' := by
  obtain ⟨S, hc, hs⟩ := h.clk
  exact (count_S w B S c hc v hv).mono fun _ _ ⟨he, hb⟩ => ⟨he, h.step hb, .of_below hb⟩
theorem live_N (h : ClkN N w0 w B c) (t : Int) (v : Bool) (hv : c.live t = v) :
    Calls Try.prog 23 #[.pointer (some ⟨B, 0, none⟩), .int .i64 t] w fun e w' => e = .returned (.bool v) ∧ w = w' := by
  obtain ⟨S, hc, hs⟩ := h.clk
  exact live_S w B S c t hc v hv
theorem aborted_N (h : ClkN N w0 w B c) (t : Int) (v : Bool) (hv : c.aborted t = v) :
    Calls Try.prog 31 #[.pointer (some ⟨B, 0, none⟩), .int .i64 t] w fun e w' => e = .returned (.bool v) ∧ w = w' := by
  obtain ⟨S, hc, hs⟩ := h.clk
  exact aborted_S w B S c t hc v hv
theorem sees_N (h : ClkN N w0 w B c) (t b : Int) (hg : c.Good) (v : Bool) (hv : c.sees t b = v) :
    Calls Try.prog 20 #[.pointer (some ⟨B, 0, none⟩), .int .i64 t, .int .i64 b] w fun e w' => e = .returned (.bool v) ∧ ClkN N w0 w' B c ∧ TFr clkT w w' := by
  obtain ⟨S, hc, hs⟩ := h.clk
  exact (sees_S w B S c t b hc hg v hv).mono fun _ _ ⟨he, hb⟩ => ⟨he, h.step hb, .of_below hb⟩
theorem clashes_N (h : ClkN N w0 w B c) (t b : Int) (hg : c.Good) (v : Bool) (hv : c.clashes t b = v) :
    Calls Try.prog 22 #[.pointer (some ⟨B, 0, none⟩), .int .i64 t, .int .i64 b] w fun e w' => e = .returned (.bool v) ∧ ClkN N w0 w' B c ∧ TFr clkT w w' := by
  obtain ⟨S, hc, hs⟩ := h.clk
  exact (clashes_S w B S c t b hc hg v hv).mono fun _ _ ⟨he, hb⟩ => ⟨he, h.step hb, .of_below hb⟩
theorem settled_N (h : ClkN N w0 w B c) (b : Int) (hg : c.Good) (v : Bool) (hv : c.settled b = v) :
    Calls Try.prog 21 #[.pointer (some ⟨B, 0, none⟩), .int .i64 b] w fun e w' => e = .returned (.bool v) ∧ ClkN N w0 w' B c ∧ TFr clkT w w' := by
  obtain ⟨S, hc, hs⟩ := h.clk
  exact (settled_S w B S c b hc hg v hv).mono fun _ _ ⟨he, hb⟩ => ⟨he, h.step hb, .of_below hb⟩
end
end Go.Proofs.Ytdgojfjaooindaa
