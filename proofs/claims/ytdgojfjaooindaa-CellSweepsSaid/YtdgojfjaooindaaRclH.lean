/-
  ligaturelaw7's world: a clock and a cell, in the program and in the reference.
-/
import Derived.Test.YtdgojfjaooindaaRclG
import Derived.Test.YtdgojfjaooindaaFirstWalk
namespace Go.Proofs.Ytdgojfjaooindaa
open Go.RowKit Go.Proofs.Lig

abbrev pT : List TypeId := clkT ++ celT
abbrev zT : List TypeId := pT ++ Rcl.rT

section
variable {N : Nat} {w0 w w' : World} {B D : Nat} {c c' d d' : Clk} {X Y : Nat} {l l' m m' : List (Ver Int)}
theorem CC.keep {ts : List TypeId} (h : CC N w0 w B c X l) (hf : TFr ts w w') (hb : Below N w0 w') (hd : ∀ t ∈ pT, t ∉ ts) : CC N w0 w' B c X l := by
  obtain ⟨hc, S, hl, hs⟩ := h
  refine ⟨⟨hc.lo, hb, ?_⟩, S, hl.tfr hf (fun t ht => hd t (List.mem_append_right _ ht)), hs⟩
  obtain ⟨S', h1, h2⟩ := hc.clk
  exact ⟨S', h1.tfr hf (fun t ht => hd t (List.mem_append_left _ ht)), h2⟩

/-- The world Z: the program's clock and cell, the reference's, and the number n. -/
structure ZW (N : Nat) (w0 w : World) (Z B X D Y : Nat) (n : Int) (c : Clk) (l : List (Ver Int)) (d : Clk) (m : List (Ver Int)) : Prop where
  zN : N ≤ Z
  blk : Blk w Z 68 [.pointer (some ⟨B, 0, none⟩), .pointer (some ⟨X, 0, none⟩), .pointer (some ⟨D, 0, none⟩), .pointer (some ⟨Y, 0, none⟩), .int .i64 n]
  prog : CC N w0 w B c X l
  ref : Rcl.RC N w0 w D d Y m

variable {Z : Nat} {n : Int}
theorem ZW.size (h : ZW N w0 w Z B X D Y n c l d m) : N ≤ w.heap.size := h.prog.size
theorem ZW.below (h : ZW N w0 w Z B X D Y n c l d m) : Below N w0 w := h.prog.clk.below
theorem ZW.step (h : ZW N w0 w Z B X D Y n c l d m) (hb : Below w.heap.size w w') : ZW N w0 w' Z B X D Y n c l d m :=
  ⟨h.zN, h.blk.below hb h.blk.lt, h.prog.step hb, h.ref.step hb⟩
theorem ZW.drewN (h : ZW N w0 w Z B X D Y n c l d m) (k : Nat) : ZW N w0 (w.drewN k) Z B X D Y n c l d m := h.step (below_drewN w k)
theorem ZW.onProg (h : ZW N w0 w Z B X D Y n c l d m) (h' : CC N w0 w' B c' X l') (hf : TFr pT w w') : ZW N w0 w' Z B X D Y n c' l' d m :=
  ⟨h.zN, h.blk.tfr hf (by decide), h', h.ref.keep hf h'.clk.below (by decide)⟩
theorem ZW.onRef (h : ZW N w0 w Z B X D Y n c l d m) (h' : Rcl.RC N w0 w' D d' Y m') (hf : TFr Rcl.rT w w') : ZW N w0 w' Z B X D Y n c l d' m' :=
  ⟨h.zN, h.blk.tfr hf (by decide), h.prog.keep hf h'.clk.below (by decide), h'⟩
/-- The number n is set. -/
theorem ZW.setN (h : ZW N w0 w Z B X D Y n c l d m) (k : Int) : ZW N w0 (w.setCell ⟨Z, 4, none⟩ (.int .i64 k)) Z B X D Y k c l d m := by
  have hf : TFr [68] w (w.setCell ⟨Z, 4, none⟩ (.int .i64 k)) := .of_fr (S := [Z]) ((Fr.refl _ _).setCell (.inl (by simp)) _) (fun q hq => by
    have : q = Z := by simpa using hq
    subst this
    exact ⟨_, _, _, h.blk, by simp⟩)
  have hb : Below N w0 (w.setCell ⟨Z, 4, none⟩ (.int .i64 k)) := h.below.trans (((Fr.refl [Z] w).setCell (.inl (by simp)) _).below h.size (fun q hq => by
    have : q = Z := by simpa using hq
    subst this
    exact h.zN))
  exact ⟨h.zN, h.blk.set_ 4 _, h.prog.keep hf hb (by decide), h.ref.keep hf hb (by decide)⟩

/-! ### The program's calls -/
theorem z_begin (h : ZW N w0 w Z B X D Y n c l d m) (hf : c.count < 4) (hn : c.l.length ≤ 1000000) (v : Int) (hv : (c.l.length : Int) + 1 = v) :
    Calls Try.prog 18 #[.pointer (some ⟨B, 0, none⟩)] w fun e w' => e = .returned (.tuple #[.int .i64 v, .int .i64 0]) ∧ ZW N w0 w' Z B X D Y n c.began l d m ∧ TFr zT w w' :=
  (begin_Z h.prog hf hn v hv).mono fun _ _ ⟨he, h', ht⟩ => ⟨he, h.onProg h' (ht.mono (by decide)), ht.mono (by decide)⟩
theorem z_begin_full (h : ZW N w0 w Z B X D Y n c l d m) (hf : 4 ≤ c.count) :
    Calls Try.prog 18 #[.pointer (some ⟨B, 0, none⟩)] w fun e w' => e = .returned (.tuple #[.int .i64 0, .int .i64 3]) ∧ ZW N w0 w' Z B X D Y n c l d m ∧ TFr zT w w' :=
  (begin_full_N h.prog.clk hf).mono fun _ _ ⟨he, h', ht⟩ => ⟨he, h.onProg (h.prog.ofClk h' ht) (ht.mono (by decide)), ht.mono (by decide)⟩
theorem z_commit (h : ZW N w0 w Z B X D Y n c l d m) (t : Int) (hlv : c.live t = true) (hn : c.n ≤ 1000000) :
    Calls Try.prog 19 #[.pointer (some ⟨B, 0, none⟩), .int .i64 t] w fun e w' => e = .returned (.int .i64 0) ∧ ZW N w0 w' Z B X D Y n (c.committed t) l d m ∧ TFr zT w w' :=
  (commit_Z h.prog t hlv hn).mono fun _ _ ⟨he, h', ht⟩ => ⟨he, h.onProg h' (ht.mono (by decide)), ht.mono (by decide)⟩
theorem z_commit_not (h : ZW N w0 w Z B X D Y n c l d m) (t : Int) (hlv : c.live t = false) :
    Calls Try.prog 19 #[.pointer (some ⟨B, 0, none⟩), .int .i64 t] w fun e w' => e = .returned (.int .i64 5) ∧ ZW N w0 w' Z B X D Y n c l d m ∧ TFr zT w w' :=
  (commit_not_N h.prog.clk t hlv).mono fun _ _ ⟨he, hw⟩ => ⟨he, hw ▸ h, hw ▸ TFr.refl _ _⟩
theorem z_abort (h : ZW N w0 w Z B X D Y n c l d m) (t : Int) (hlv : c.live t = true) (hg : c.Good) :
    Calls Try.prog 27 #[.pointer (some ⟨B, 0, none⟩), .int .i64 t] w fun e w' => e = .returned (.int .i64 0) ∧ ZW N w0 w' Z B X D Y n (c.dropped t) l d m ∧ TFr zT w w' :=
  (abort_Z h.prog t hlv hg).mono fun _ _ ⟨he, h', ht⟩ => ⟨he, h.onProg h' (ht.mono (by decide)), ht.mono (by decide)⟩
theorem z_abort_not (h : ZW N w0 w Z B X D Y n c l d m) (t : Int) (hlv : c.live t = false) :
    Calls Try.prog 27 #[.pointer (some ⟨B, 0, none⟩), .int .i64 t] w fun e w' => e = .returned (.int .i64 5) ∧ ZW N w0 w' Z B X D Y n c l d m ∧ TFr zT w w' :=
  (abort_not_N h.prog.clk t hlv).mono fun _ _ ⟨he, hw⟩ => ⟨he, hw ▸ h, hw ▸ TFr.refl _ _⟩
theorem z_undo (h : ZW N w0 w Z B X D Y n c l d m) (t : Int) :
    Calls Try.prog 50 #[.pointer (some ⟨X, 0, none⟩), .int .i64 t] w fun e w' => (∃ u, e = .returned u) ∧ ZW N w0 w' Z B X D Y n c (Cel.undone l t) d m ∧ TFr zT w w' :=
  (undo_Z h.prog t).mono fun _ _ ⟨he, h', ht⟩ => ⟨he, h.onProg h' (ht.mono (by decide)), ht.mono (by decide)⟩
theorem z_check (h : ZW N w0 w Z B X D Y n c l d m) (hg : c.Good) (t : Int) (v : Int) (hv : (if Cel.blocked c l t then 6 else 0) = v) :
    Calls Try.prog 44 #[.pointer (some ⟨X, 0, none⟩), .pointer (some ⟨B, 0, none⟩), .int .i64 t] w fun e w' => e = .returned (.int .i64 v) ∧ ZW N w0 w' Z B X D Y n c l d m ∧ TFr zT w w' :=
  (check_C h.prog hg t v hv).mono fun _ _ ⟨he, hb⟩ => ⟨he, h.step hb, .of_below hb⟩
theorem z_write_no (h : ZW N w0 w Z B X D Y n c l d m) (hg : c.Good) (t v : Int) (gone : Bool) (hb : Cel.blocked c l t = true) :
    Calls Try.prog 42 #[.pointer (some ⟨X, 0, none⟩), .pointer (some ⟨B, 0, none⟩), .int .i64 t, .int .i64 v, .bool gone] w fun e w' => e = .returned (.int .i64 6) ∧ ZW N w0 w' Z B X D Y n c l d m ∧ TFr zT w w' :=
  (write_no_Z h.prog hg t v gone hb).mono fun _ _ ⟨he, hb⟩ => ⟨he, h.step hb, .of_below hb⟩
theorem z_write (h : ZW N w0 w Z B X D Y n c l d m) (hg : c.Good) (t v : Int) (gone : Bool) (hb : Cel.blocked c l t = false) (hn : l.length ≤ 1000000) :
    Calls Try.prog 42 #[.pointer (some ⟨X, 0, none⟩), .pointer (some ⟨B, 0, none⟩), .int .i64 t, .int .i64 v, .bool gone] w fun e w' => e = .returned (.int .i64 0) ∧ ZW N w0 w' Z B X D Y n c (Cel.written l t v gone) d m ∧ TFr zT w w' :=
  (write_Z h.prog hg t v gone hb hn).mono fun _ _ ⟨he, h', ht⟩ => ⟨he, h.onProg h' (ht.mono (by decide)), ht.mono (by decide)⟩
theorem z_read (h : ZW N w0 w Z B X D Y n c l d m) (hg : c.Good) (t : Int) (v : Int) (ok : Bool) (hv : (Cel.lastBy (c.sees t) l).getD 0 = v) (hok : (Cel.lastBy (c.sees t) l).isSome = ok) :
    Calls Try.prog 43 #[.pointer (some ⟨X, 0, none⟩), .pointer (some ⟨B, 0, none⟩), .int .i64 t] w fun e w' => e = .returned (.tuple #[.int .i64 v, .bool ok]) ∧ ZW N w0 w' Z B X D Y n c l d m ∧ TFr zT w w' :=
  (read_Z h.prog hg t v ok hv hok).mono fun _ _ ⟨he, hb⟩ => ⟨he, h.step hb, .of_below hb⟩
theorem z_len (h : ZW N w0 w Z B X D Y n c l d m) (v : Int) (hv : (l.length : Int) = v) :
    Calls Try.prog 47 #[.pointer (some ⟨X, 0, none⟩)] w fun e w' => e = .returned (.int .i64 v) ∧ w = w' := len_C h.prog v hv
theorem z_spare (h : ZW N w0 w Z B X D Y n c l d m) (hg : c.Good) (v : Bool) (hv : decide (0 ≤ place (Cel.isSpare c l) l) = v) :
    Calls Try.prog 49 #[.pointer (some ⟨X, 0, none⟩), .pointer (some ⟨B, 0, none⟩)] w fun e w' => e = .returned (.bool v) ∧ ZW N w0 w' Z B X D Y n c l d m ∧ TFr zT w w' := by
  obtain ⟨S, ⟨A, cap, hl, rfl⟩, hs⟩ := h.prog.cel
  obtain ⟨_, _, SC, hc, _⟩ := h.prog.clk
  exact (spareB_S w X A cap l B SC c hl hc hg v hv).mono fun _ _ ⟨he, hb⟩ => ⟨he, h.step hb, .of_below hb⟩
theorem z_sweep_no (h : ZW N w0 w Z B X D Y n c l d m) (hg : c.Good) (hv : place (Cel.isSpare c l) l = -1) :
    Calls Try.prog 48 #[.pointer (some ⟨X, 0, none⟩), .pointer (some ⟨B, 0, none⟩)] w fun e w' => e = .returned (.bool false) ∧ ZW N w0 w' Z B X D Y n c l d m ∧ TFr zT w w' := by
  obtain ⟨S, ⟨A, cap, hl, rfl⟩, hs⟩ := h.prog.cel
  obtain ⟨_, _, SC, hc, _⟩ := h.prog.clk
  exact (sweep_not_S w X A cap l B SC c hl hc hg hv).mono fun _ _ ⟨he, hb⟩ => ⟨he, h.step hb, .of_below hb⟩
theorem z_sweep (h : ZW N w0 w Z B X D Y n c l d m) (hg : c.Good) (i : Nat) (hv : place (Cel.isSpare c l) l = (i : Int)) :
    Calls Try.prog 48 #[.pointer (some ⟨X, 0, none⟩), .pointer (some ⟨B, 0, none⟩)] w fun e w' => e = .returned (.bool true) ∧ ZW N w0 w' Z B X D Y n c (Cel.swept c l) d m ∧ TFr zT w w' := by
  obtain ⟨S, hl, hs⟩ := h.prog.cel
  obtain ⟨_, _, SC, hc, _⟩ := h.prog.clk
  refine (sweep_S w X S l B SC c i hl hc hg hv).mono fun _ _ ⟨he, hl', hf⟩ => ?_
  have ht : TFr celT _ _ := .of_fr hf hl.typed
  exact ⟨he, h.onProg (h.prog.ofCel hl hs hl' (Sub.refl _ _) hf) (ht.mono (by decide)), ht.mono (by decide)⟩

/-! ### The reference's calls -/
theorem y_begin (h : ZW N w0 w Z B X D Y n c l d m) (hf : d.count < 4) (hn : d.l.length ≤ 1000000) (v : Int) (hv : (d.l.length : Int) + 1 = v) :
    Calls Try.prog 26 #[.pointer (some ⟨D, 0, none⟩)] w fun e w' => e = .returned (.tuple #[.int .i64 v, .int .i64 0]) ∧ ZW N w0 w' Z B X D Y n c l d.began m ∧ TFr zT w w' :=
  (r_begin_N h.ref.clk hf hn v hv).mono fun _ _ ⟨he, h', ht⟩ => ⟨he, h.onRef (h.ref.ofClk h' ht) (ht.mono (by decide)), ht.mono (by decide)⟩
theorem y_begin_full (h : ZW N w0 w Z B X D Y n c l d m) (hf : 4 ≤ d.count) :
    Calls Try.prog 26 #[.pointer (some ⟨D, 0, none⟩)] w fun e w' => e = .returned (.tuple #[.int .i64 0, .int .i64 3]) ∧ w = w' := r_begin_full_N h.ref.clk hf
theorem y_commit (h : ZW N w0 w Z B X D Y n c l d m) (t : Int) (hlv : d.live t = true) (hn : d.n ≤ 1000000) :
    Calls Try.prog 55 #[.pointer (some ⟨D, 0, none⟩), .int .i64 t] w fun e w' => e = .returned (.int .i64 0) ∧ ZW N w0 w' Z B X D Y n c l (d.committed t) m ∧ TFr zT w w' :=
  (r_commit_N h.ref.clk t hlv hn).mono fun _ _ ⟨he, h', ht⟩ => ⟨he, h.onRef (h.ref.ofClk h' ht) (ht.mono (by decide)), ht.mono (by decide)⟩
theorem y_commit_not (h : ZW N w0 w Z B X D Y n c l d m) (t : Int) (hlv : d.live t = false) :
    Calls Try.prog 55 #[.pointer (some ⟨D, 0, none⟩), .int .i64 t] w fun e w' => e = .returned (.int .i64 5) ∧ ZW N w0 w' Z B X D Y n c l d m ∧ TFr zT w w' :=
  (r_commit_not_N h.ref.clk t hlv).mono fun _ _ ⟨he, hw⟩ => ⟨he, hw ▸ h, hw ▸ TFr.refl _ _⟩
theorem y_abort (h : ZW N w0 w Z B X D Y n c l d m) (t : Int) (hlv : d.live t = true) :
    Calls Try.prog 56 #[.pointer (some ⟨D, 0, none⟩), .int .i64 t] w fun e w' => e = .returned (.int .i64 0) ∧ ZW N w0 w' Z B X D Y n c l (d.dropped t) m ∧ TFr zT w w' :=
  (r_abort_N h.ref.clk t hlv).mono fun _ _ ⟨he, h', ht⟩ => ⟨he, h.onRef (h.ref.ofClk h' ht) (ht.mono (by decide)), ht.mono (by decide)⟩
theorem y_abort_not (h : ZW N w0 w Z B X D Y n c l d m) (t : Int) (hlv : d.live t = false) :
    Calls Try.prog 56 #[.pointer (some ⟨D, 0, none⟩), .int .i64 t] w fun e w' => e = .returned (.int .i64 5) ∧ ZW N w0 w' Z B X D Y n c l d m ∧ TFr zT w w' :=
  (r_abort_not_N h.ref.clk t hlv).mono fun _ _ ⟨he, hw⟩ => ⟨he, hw ▸ h, hw ▸ TFr.refl _ _⟩
theorem y_live (h : ZW N w0 w Z B X D Y n c l d m) (t : Int) (v : Bool) (hv : d.live t = v) :
    Calls Try.prog 30 #[.pointer (some ⟨D, 0, none⟩), .int .i64 t] w fun e w' => e = .returned (.bool v) ∧ w = w' := r_live_N h.ref.clk t v hv
theorem y_count (h : ZW N w0 w Z B X D Y n c l d m) (v : Int) (hv : (d.count : Int) = v) :
    Calls Try.prog 29 #[.pointer (some ⟨D, 0, none⟩)] w fun e w' => e = .returned (.int .i64 v) ∧ w = w' := r_count_N h.ref.clk v hv
theorem y_undo (h : ZW N w0 w Z B X D Y n c l d m) (hn : m.length ≤ 1000000) (c0 : Clk) (hi : Inv c0 m) (t : Int) :
    Calls Try.prog 63 #[.pointer (some ⟨Y, 0, none⟩), .int .i64 t] w fun e w' => (∃ u, e = .returned u) ∧ ZW N w0 w' Z B X D Y n c l d (Cel.undone m t) ∧ TFr zT w w' :=
  (Rcl.undo_R h.ref hn hi t).mono fun _ _ ⟨he, h', ht⟩ => ⟨he, h.onRef h' (ht.mono (by decide)), ht.mono (by decide)⟩
theorem y_check (h : ZW N w0 w Z B X D Y n c l d m) (t : Int) (v : Int) (hv : (if Cel.blocked d m t then 6 else 0) = v) :
    Calls Try.prog 64 #[.pointer (some ⟨Y, 0, none⟩), .pointer (some ⟨D, 0, none⟩), .int .i64 t] w fun e w' => e = .returned (.int .i64 v) ∧ ZW N w0 w' Z B X D Y n c l d m ∧ TFr zT w w' :=
  (Rcl.check_R h.ref t v hv).mono fun _ _ ⟨he, h', ht⟩ => ⟨he, h.onRef h' ht, ht.mono (by decide)⟩
theorem y_write_no (h : ZW N w0 w Z B X D Y n c l d m) (t v : Int) (gone : Bool) (hb : Cel.blocked d m t = true) :
    Calls Try.prog 65 #[.pointer (some ⟨Y, 0, none⟩), .pointer (some ⟨D, 0, none⟩), .int .i64 t, .int .i64 v, .bool gone] w fun e w' => e = .returned (.int .i64 6) ∧ ZW N w0 w' Z B X D Y n c l d m ∧ TFr zT w w' :=
  (Rcl.write_no_R h.ref t v gone hb).mono fun _ _ ⟨he, h', ht⟩ => ⟨he, h.onRef h' ht, ht.mono (by decide)⟩
theorem y_write (h : ZW N w0 w Z B X D Y n c l d m) (t v : Int) (gone : Bool) (hb : Cel.blocked d m t = false) (hn : m.length ≤ 1000000) :
    Calls Try.prog 65 #[.pointer (some ⟨Y, 0, none⟩), .pointer (some ⟨D, 0, none⟩), .int .i64 t, .int .i64 v, .bool gone] w fun e w' => e = .returned (.int .i64 0) ∧ ZW N w0 w' Z B X D Y n c l d (Cel.written m t v gone) ∧ TFr zT w w' :=
  (Rcl.write_R h.ref t v gone hb hn).mono fun _ _ ⟨he, h', ht⟩ => ⟨he, h.onRef h' ht, ht.mono (by decide)⟩
theorem y_read (h : ZW N w0 w Z B X D Y n c l d m) (t : Int) (v : Int) (ok : Bool) (hv : (Cel.lastBy (d.sees t) m).getD 0 = v) (hok : (Cel.lastBy (d.sees t) m).isSome = ok) :
    Calls Try.prog 72 #[.pointer (some ⟨Y, 0, none⟩), .pointer (some ⟨D, 0, none⟩), .int .i64 t] w fun e w' => e = .returned (.tuple #[.int .i64 v, .bool ok]) ∧ w = w' := Rcl.read_R h.ref t v ok hv hok
theorem y_spare (h : ZW N w0 w Z B X D Y n c l d m) (hi : Inv d m) (v : Bool) (hv : decide (0 ≤ place (Cel.isSpare d m) m) = v) :
    Calls Try.prog 66 #[.pointer (some ⟨Y, 0, none⟩), .pointer (some ⟨D, 0, none⟩)] w fun e w' => e = .returned (.bool v) ∧ ZW N w0 w' Z B X D Y n c l d m ∧ TFr zT w w' :=
  (Rcl.spareB_R h.ref hi v hv).mono fun _ _ ⟨he, h', ht⟩ => ⟨he, h.onRef h' ht, ht.mono (by decide)⟩
theorem y_sweep_no (h : ZW N w0 w Z B X D Y n c l d m) (hi : Inv d m) (hv : place (Cel.isSpare d m) m = -1) :
    Calls Try.prog 67 #[.pointer (some ⟨Y, 0, none⟩), .pointer (some ⟨D, 0, none⟩)] w fun e w' => e = .returned (.bool false) ∧ ZW N w0 w' Z B X D Y n c l d m ∧ TFr zT w w' :=
  (Rcl.sweep_no_R h.ref hi hv).mono fun _ _ ⟨he, h', ht⟩ => ⟨he, h.onRef h' ht, ht.mono (by decide)⟩
theorem y_sweep (h : ZW N w0 w Z B X D Y n c l d m) (hi : Inv d m) (hn : m.length ≤ 1000000) (i : Nat) (hv : place (Cel.isSpare d m) m = (i : Int)) :
    Calls Try.prog 67 #[.pointer (some ⟨Y, 0, none⟩), .pointer (some ⟨D, 0, none⟩)] w fun e w' => e = .returned (.bool true) ∧ ZW N w0 w' Z B X D Y n c l d (Cel.swept d m) ∧ TFr zT w w' :=
  (Rcl.sweep_R h.ref hi hn i hv).mono fun _ _ ⟨he, h', ht⟩ => ⟨he, h.onRef h' ht, ht.mono (by decide)⟩
end

/-- ligaturelaw7.begin: all four are empty. -/
theorem begin_zw (w : World) : Calls Try.prog 45 #[] w fun e w' => ∃ Z B X D Y, e = .returned (.pointer (some ⟨Z, 0, none⟩)) ∧ ZW w.heap.size w w' Z B X D Y 0 Clk.new [] Clk.new [] := by
  go_enter Try.func45, Try.ntmps45
  go_wp2_with fail
  refine (new_N w).mono ?_
  rintro e w1 ⟨rfl, h1, _⟩
  go_wp2_with fail
  refine (new_C h1).mono ?_
  rintro e w2 ⟨rfl, h⟩
  have hX : w1.heap.size = w1.heap.size := rfl
  generalize w1.heap.size = X at h ⊢
  clear h1 hX
  go_wp2_with fail
  go_ret
  have bd := ((Below.refl _ w2).alloc (Nat.le_refl _) (.cells #[.slice none 0 0, .int .i64 0] 36))
  have hb := (bd.alloc (by simp) (.cells #[.slice none 0 0] 99)).alloc (by simp; omega) (.cells #[.pointer (some ⟨w.heap.size, 0, none⟩), .pointer (some ⟨X, 0, none⟩), .pointer (some ⟨w2.heap.size, 0, none⟩), .pointer (some ⟨w2.heap.size + 1, 0, none⟩), .int .i64 0] 68)
  have bz := Blk.new ((w2.alloc (.cells #[.slice none 0 0, .int .i64 0] 36)).alloc (.cells #[.slice none 0 0] 99)) 68 [.pointer (some ⟨w.heap.size, 0, none⟩), .pointer (some ⟨X, 0, none⟩), .pointer (some ⟨w2.heap.size, 0, none⟩), .pointer (some ⟨w2.heap.size + 1, 0, none⟩), .int .i64 0]
  simp only [World.size_alloc] at bz
  have hs := h.size
  have hd := r_new_N (N := w.heap.size) (w0 := w) (w := w2) (Nat.le_refl _) h.clk.below
  have hy : Rcl.CelS ((w2.alloc (.cells #[.slice none 0 0, .int .i64 0] 36)).alloc (.cells #[.slice none 0 0] 99)) (w2.heap.size + 1) [w2.heap.size + 1] [] := ⟨none, 0, ⟨by have := Blk.new (w2.alloc (.cells #[.slice none 0 0, .int .i64 0] 36)) 99 [.slice none 0 0]; simpa using this, World.ownsRow_nil _ _ _ _⟩, rfl⟩
  have hr : Rcl.RC w.heap.size w ((w2.alloc (.cells #[.slice none 0 0, .int .i64 0] 36)).alloc (.cells #[.slice none 0 0] 99)) w2.heap.size Clk.new (w2.heap.size + 1) [] :=
    ⟨hd.step ((Below.refl _ _).alloc (Nat.le_refl _) _), [w2.heap.size + 1], hy, fun k hk => by have : k = w2.heap.size + 1 := by simpa using hk
                                                                                                omega⟩
  exact ⟨_, _, X, _, _, rfl, by omega, bz, h.step hb, hr.step ((Below.refl _ _).alloc (Nat.le_refl _) _)⟩
end Go.Proofs.Ytdgojfjaooindaa
