/-
  Contracts of the reference's clock over a clock with its footprint: the blocks that it lies in. What each returns is given by an equation, so that a caller may hand in a numeral.
-/
import Derived.Test.YtdgojfjaooindaaRefD
import Derived.Test.YtdgojfjaooindaaClkS
namespace Go.Proofs.Ytdgojfjaooindaa
open Go.RowKit Go.Proofs.Lig

/-- The clock c lies in block B; S are the blocks that it lies in. -/
def RefS (w : World) (B : Nat) (S : List Nat) (c : Clk) : Prop := ∃ A cap, RefA w B A cap c ∧ S = B :: (Value.slice A c.l.length cap).ownBlock.toList

theorem RefS.fr {w w' : World} {B : Nat} {S S' : List Nat} {c : Clk} (h : RefS w B S c) (hf : Fr S' w w') (hd : ∀ k ∈ S, k ∉ S') : RefS w' B S c := by
  obtain ⟨A, cap, h, rfl⟩ := h
  exact ⟨A, cap, ⟨h.blk.fr hf (hd B (by simp)), own_fr h.own hf (fun k hk => hd k (by simp [hk]))⟩, rfl⟩
theorem RefS.below {w w' : World} {B : Nat} {S : List Nat} {c : Clk} (h : RefS w B S c) (hb : Below w.heap.size w w') : RefS w' B S c :=
  h.fr (S' := []) (Fr.of_below hb (Nat.le_refl _)) (by simp)
theorem RefS.lt {w : World} {B : Nat} {S : List Nat} {c : Clk} (h : RefS w B S c) : ∀ k ∈ S, k < w.heap.size := by
  obtain ⟨A, cap, h, rfl⟩ := h
  intro k hk
  rcases List.mem_cons.1 hk with rfl | hk
  · exact h.blk.lt
  · exact own_lt h.own (by simpa using hk)
theorem RefS.mem {w : World} {B : Nat} {S : List Nat} {c : Clk} (h : RefS w B S c) : B ∈ S := by
  obtain ⟨A, cap, h, rfl⟩ := h
  simp

/-- The element types of the blocks that a clock lies in. -/
abbrev refT : List TypeId := [36, 84]
theorem RefS.typed {w : World} {B : Nat} {S : List Nat} {c : Clk} (h : RefS w B S c) : ∀ k ∈ S, ∃ cs t fr, w.heap[k]? = some (.cells cs t fr) ∧ t ∈ refT := by
  obtain ⟨A, cap, h, rfl⟩ := h
  intro k hk
  rcases List.mem_cons.1 hk with rfl | hk
  · exact ⟨_, _, _, h.blk, by simp⟩
  · have hk : (Value.slice A c.l.length cap).ownBlock = some k := by simpa using hk
    rcases h.own.2 with ⟨h0, _⟩ | ⟨g, cap', cur, hv, _, hh, _⟩
    · rw [h0] at hk; simp [Value.ownBlock] at hk
    · rw [hv] at hk
      have : g = k := by simpa [Value.ownBlock] using hk
      subst this
      exact ⟨_, _, _, hh, by simp⟩
theorem RefS.tfr {w w' : World} {B : Nat} {S : List Nat} {c : Clk} {ts : List TypeId} (h : RefS w B S c) (hf : TFr ts w w') (hd : ∀ t ∈ refT, t ∉ ts) : RefS w' B S c := by
  obtain ⟨A, cap, h, rfl⟩ := h
  exact ⟨A, cap, ⟨h.blk.tfr hf (hd _ (by simp)), own_tfr h.own hf (hd _ (by simp))⟩, rfl⟩

/-- .. and all of these blocks lie at N or beyond, of a world that has not turned what lay below N. -/
structure RefN (N : Nat) (w0 w : World) (B : Nat) (c : Clk) : Prop where
  lo : N ≤ w0.heap.size
  below : Below N w0 w
  clk : ∃ S, RefS w B S c ∧ ∀ k ∈ S, N ≤ k

theorem RefN.step {N : Nat} {w0 w w' : World} {B : Nat} {c : Clk} (h : RefN N w0 w B c) (hb : Below w.heap.size w w') : RefN N w0 w' B c := by
  obtain ⟨hl, hw, S, hc, hs⟩ := h
  exact ⟨hl, hw.trans (hb.mono (Nat.le_trans hl hw.size)), S, hc.below hb, hs⟩
theorem RefN.tfr {N : Nat} {w0 w w' : World} {B : Nat} {c : Clk} {ts : List TypeId} (h : RefN N w0 w B c) (hf : TFr ts w w') (hb : Below N w w') (hd : ∀ t ∈ refT, t ∉ ts) : RefN N w0 w' B c := by
  obtain ⟨hl, hw, S, hc, hs⟩ := h
  exact ⟨hl, hw.trans hb, S, hc.tfr hf hd, hs⟩
theorem RefN.turn {N : Nat} {w0 w w' : World} {B : Nat} {S S' : List Nat} {c' : Clk} (hl : N ≤ w0.heap.size) (hw : Below N w0 w) (hs : ∀ k ∈ S, N ≤ k) (hc : RefS w' B S' c') (hsub : Sub S' S w.heap.size) (hf : Fr S w w') : RefN N w0 w' B c' :=
  ⟨hl, hw.trans (hf.below (Nat.le_trans hl hw.size) hs), S', hc, fun k hk => by
    rcases hsub k hk with h1 | h1
    · exact hs k h1
    · exact Nat.le_trans (Nat.le_trans hl hw.size) h1⟩


section
variable {N : Nat} {w0 w : World} {B : Nat} {c : Clk}
theorem r_new_N (hl : N ≤ w0.heap.size) (hb : Below N w0 w) : RefN N w0 (w.alloc (.cells #[.slice none 0 0, .int .i64 0] 36)) w.heap.size Clk.new :=
  ⟨hl, hb.alloc (Nat.le_trans hl hb.size) _, [w.heap.size], ⟨none, 0, ⟨Blk.new w _ [.slice none 0 0, .int .i64 0], World.ownsRow_nil _ _ _ _⟩, rfl⟩, by simp; exact Nat.le_trans hl hb.size⟩
theorem r_begin_N (h : RefN N w0 w B c) (hf : c.count < 4) (hn : c.l.length ≤ 1000000) (v : Int) (hv : (c.l.length : Int) + 1 = v) :
    Calls Try.prog 26 #[.pointer (some ⟨B, 0, none⟩)] w fun e w' => e = .returned (.tuple #[.int .i64 v, .int .i64 0]) ∧ RefN N w0 w' B c.began ∧ TFr refT w w' := by
  obtain ⟨hl, hw, S, ⟨A, cap, hc, rfl⟩, hs⟩ := h
  rw [← hv]
  refine (r_begin_ok w B A cap c hc hf hn).mono ?_
  rintro e w' ⟨he, A', cap', hc', hs', hfr⟩
  have hcS : RefS w B _ c := ⟨A, cap, hc, rfl⟩
  exact ⟨he, RefN.turn hl hw hs ⟨A', cap', hc', rfl⟩ hs' hfr, .of_fr hfr hcS.typed⟩
theorem r_begin_full_N (h : RefN N w0 w B c) (hf : 4 ≤ c.count) :
    Calls Try.prog 26 #[.pointer (some ⟨B, 0, none⟩)] w fun e w' => e = .returned (.tuple #[.int .i64 0, .int .i64 3]) ∧ w = w' := by
  obtain ⟨hl, hw, S, ⟨A, cap, hc, rfl⟩, hs⟩ := h
  exact r_begin_full w B A cap c hc hf
theorem r_commit_N (h : RefN N w0 w B c) (t : Int) (hlv : c.live t = true) (hn : c.n ≤ 1000000) :
    Calls Try.prog 55 #[.pointer (some ⟨B, 0, none⟩), .int .i64 t] w fun e w' => e = .returned (.int .i64 0) ∧ RefN N w0 w' B (c.committed t) ∧ TFr refT w w' := by
  obtain ⟨hl, hw, S, ⟨A, cap, hc, rfl⟩, hs⟩ := h
  have hcS : RefS w B _ c := ⟨A, cap, hc, rfl⟩
  exact (r_commit_ok w B A cap c t hc hlv hn).mono fun _ _ ⟨he, h', hf⟩ => ⟨he, RefN.turn hl hw hs ⟨A, cap, h', rfl⟩ (by rw [Clk.length_committed]; exact Sub.refl _ _) hf, .of_fr hf hcS.typed⟩
theorem r_abort_N (h : RefN N w0 w B c) (t : Int) (hlv : c.live t = true) :
    Calls Try.prog 56 #[.pointer (some ⟨B, 0, none⟩), .int .i64 t] w fun e w' => e = .returned (.int .i64 0) ∧ RefN N w0 w' B (c.dropped t) ∧ TFr refT w w' := by
  obtain ⟨hl, hw, S, ⟨A, cap, hc, rfl⟩, hs⟩ := h
  have hcS : RefS w B _ c := ⟨A, cap, hc, rfl⟩
  exact (r_abort_ok w B A cap c t hc hlv).mono fun _ _ ⟨he, h', hf⟩ => ⟨he, RefN.turn hl hw hs ⟨A, cap, h', rfl⟩ (by rw [Clk.length_dropped]; exact Sub.refl _ _) hf, .of_fr hf hcS.typed⟩
theorem r_commit_not_N (h : RefN N w0 w B c) (t : Int) (hlv : c.live t = false) :
    Calls Try.prog 55 #[.pointer (some ⟨B, 0, none⟩), .int .i64 t] w fun e w' => e = .returned (.int .i64 5) ∧ w = w' := by
  obtain ⟨hl, hw, S, ⟨A, cap, hc, rfl⟩, hs⟩ := h
  exact r_commit_not w B A cap c t hc hlv
theorem r_abort_not_N (h : RefN N w0 w B c) (t : Int) (hlv : c.live t = false) :
    Calls Try.prog 56 #[.pointer (some ⟨B, 0, none⟩), .int .i64 t] w fun e w' => e = .returned (.int .i64 5) ∧ w = w' := by
  obtain ⟨hl, hw, S, ⟨A, cap, hc, rfl⟩, hs⟩ := h
  exact r_abort_not w B A cap c t hc hlv
theorem r_count_N (h : RefN N w0 w B c) (v : Int) (hv : (c.count : Int) = v) :
    Calls Try.prog 29 #[.pointer (some ⟨B, 0, none⟩)] w fun e w' => e = .returned (.int .i64 v) ∧ w = w' := by
  obtain ⟨hl, hw, S, ⟨A, cap, hc, rfl⟩, hs⟩ := h
  rw [← hv]
  exact r_count_any w B A cap c hc
theorem r_live_N (h : RefN N w0 w B c) (t : Int) (v : Bool) (hv : c.live t = v) :
    Calls Try.prog 30 #[.pointer (some ⟨B, 0, none⟩), .int .i64 t] w fun e w' => e = .returned (.bool v) ∧ w = w' := by
  obtain ⟨hl, hw, S, ⟨A, cap, hc, rfl⟩, hs⟩ := h
  rw [← hv]
  exact r_live_any w B A cap c t hc
theorem r_aborted_N (h : RefN N w0 w B c) (t : Int) (v : Bool) (hv : c.aborted t = v) :
    Calls Try.prog 32 #[.pointer (some ⟨B, 0, none⟩), .int .i64 t] w fun e w' => e = .returned (.bool v) ∧ w = w' := by
  obtain ⟨hl, hw, S, ⟨A, cap, hc, rfl⟩, hs⟩ := h
  rw [← hv]
  exact r_aborted_any w B A cap c t hc
theorem r_sees_N (h : RefN N w0 w B c) (t b : Int) (v : Bool) (hv : c.sees t b = v) :
    Calls Try.prog 34 #[.pointer (some ⟨B, 0, none⟩), .int .i64 t, .int .i64 b] w fun e w' => e = .returned (.bool v) ∧ w = w' := by
  obtain ⟨hl, hw, S, ⟨A, cap, hc, rfl⟩, hs⟩ := h
  rw [← hv]
  exact r_sees_any w B A cap c t b hc
theorem r_clashes_N (h : RefN N w0 w B c) (t b : Int) (v : Bool) (hv : c.clashes t b = v) :
    Calls Try.prog 35 #[.pointer (some ⟨B, 0, none⟩), .int .i64 t, .int .i64 b] w fun e w' => e = .returned (.bool v) ∧ RefN N w0 w' B c ∧ TFr refT w w' := by
  have h' := h
  obtain ⟨hl, hw, S, ⟨A, cap, hc, rfl⟩, hs⟩ := h
  rw [← hv]
  exact (r_clashes_any w B A cap c t b hc).mono fun _ _ ⟨he, hb⟩ => ⟨he, h'.step hb, .of_below hb⟩
theorem r_settled_N (h : RefN N w0 w B c) (b : Int) (v : Bool) (hv : c.settled b = v) :
    Calls Try.prog 33 #[.pointer (some ⟨B, 0, none⟩), .int .i64 b] w fun e w' => e = .returned (.bool v) ∧ RefN N w0 w' B c ∧ TFr refT w w' := by
  have h' := h
  obtain ⟨hl, hw, S, ⟨A, cap, hc, rfl⟩, hs⟩ := h
  rw [← hv]
  exact (r_settled_any w B A cap c b hc).mono fun _ _ ⟨he, hb⟩ => ⟨he, h'.step hb, .of_below hb⟩
end

/-- Both clocks, the program's and the reference's, hold the same transactions. -/
structure Both (N : Nat) (w0 w : World) (B R : Nat) (c : Clk) : Prop where
  clk : ClkN N w0 w B c
  ref : RefN N w0 w R c
end Go.Proofs.Ytdgojfjaooindaa
