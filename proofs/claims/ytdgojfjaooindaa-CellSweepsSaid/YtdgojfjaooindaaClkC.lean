/-
  Contracts of package clock's functions, more: Live, Aborted, Sees, Clashes.
-/
import Derived.Test.YtdgojfjaooindaaClkB
import Derived.Deep.QuietTactic
import Derived.BigQuiet
import Derived.LaidEqlPtr
namespace Go.Proofs.Ytdgojfjaooindaa
open Go.RowKit Go.Proofs.Lig

theorem live_any (w : World) (B : Nat) (A : Option Addr) (cap : Nat) (c : Clk) (t : Int) (h : ClkA w B A cap c) :
    Calls Try.prog 23 #[.pointer (some ⟨B, 0, none⟩), .int .i64 t] w fun e w' => e = .returned (.bool (c.live t)) ∧ w = w' := by
  cases hx : c.tx? t with
  | none =>
    have HE : Hid (c.live t = false) := by unfold Clk.live; rw [hx]; rfl
    go_enter Try.func23, Try.ntmps23
    go_wp2_with (go_at_call 54; refine (at_none _ B A cap c t h hx).mono ?_; rintro e w' ⟨rfl, rfl⟩)
    go_ret
    exact ⟨by rw [HE.out]; rfl, rfl⟩
  | some x =>
    obtain ⟨g, rfl⟩ := h.some hx
    obtain ⟨d0, _, _⟩ := h.tx (Clk.tx?_eq hx)
    have HE : Hid (c.live t = x.live) := by unfold Clk.live; rw [hx]; rfl
    have hs := state_eq x
    cases hl : x.live
    all_goals
      rw [hl] at hs HE
      go_enter Try.func23, Try.ntmps23
      go_wp2_with (go_at_call 54; refine (at_some _ B g cap c t x h hx).mono ?_; rintro e w' ⟨rfl, rfl⟩)
      go_ret
      exact ⟨by rw [HE.out]; rfl, rfl⟩

theorem state_aborted (x : Tx) : (stateOf x == 2) = (!x.live && x.as == 0) := by
  unfold stateOf
  cases x.live <;> simp
  split <;> simp [*]

theorem aborted_any (w : World) (B : Nat) (A : Option Addr) (cap : Nat) (c : Clk) (t : Int) (h : ClkA w B A cap c) :
    Calls Try.prog 31 #[.pointer (some ⟨B, 0, none⟩), .int .i64 t] w fun e w' => e = .returned (.bool (c.aborted t)) ∧ w = w' := by
  cases hx : c.tx? t with
  | none =>
    have HE : Hid (c.aborted t = false) := by unfold Clk.aborted; rw [hx]; rfl
    go_enter Try.func31, Try.ntmps31
    go_wp2_with (go_at_call 54; refine (at_none _ B A cap c t h hx).mono ?_; rintro e w' ⟨rfl, rfl⟩)
    go_ret
    exact ⟨by rw [HE.out]; rfl, rfl⟩
  | some x =>
    obtain ⟨g, rfl⟩ := h.some hx
    obtain ⟨d0, _, _⟩ := h.tx (Clk.tx?_eq hx)
    have hs := state_aborted x
    have HE : Hid (c.aborted t = (stateOf x == 2)) := by unfold Clk.aborted; rw [hx]; exact hs.symm
    clear hs
    cases hl : stateOf x == 2
    all_goals
      rw [hl] at HE
      go_enter Try.func31, Try.ntmps31
      go_wp2_with (go_at_call 54; refine (at_some _ B g cap c t x h hx).mono ?_; rintro e w' ⟨rfl, rfl⟩)
      go_ret
      exact ⟨by rw [HE.out]; rfl, rfl⟩

theorem below_drewN (w : World) (n : Nat) : Below w.heap.size w (w.drewN n) := ⟨rfl, rfl, rfl, Nat.le_refl _, fun _ _ => rfl⟩

theorem sees_none1 (w : World) (B : Nat) (A : Option Addr) (cap : Nat) (c : Clk) (t b : Int) (h : ClkA w B A cap c) (hx : c.tx? t = none) :
    Calls Try.prog 20 #[.pointer (some ⟨B, 0, none⟩), .int .i64 t, .int .i64 b] w fun e w' => e = .returned (.bool false) ∧ Below w.heap.size w w' := by
  cases hy : c.tx? b with
  | none =>
    go_enter Try.func20, Try.ntmps20
    go_wp2_with fail
    refine (at_none _ B A cap c t h hx).mono ?_
    rintro e w' ⟨rfl, rfl⟩
    go_wp2_with fail
    refine (at_none _ B A cap c b h hy).mono ?_
    rintro e w' ⟨rfl, rfl⟩
    clear h hx hy
    go_wp2_with fail
    go_quiet (fail)
    go_wp2
    go_ret
    exact ⟨rfl, below_drewN _ _⟩
  | some y =>
    obtain ⟨g, rfl⟩ := h.some hy
    go_enter Try.func20, Try.ntmps20
    go_wp2_with fail
    refine (at_none _ B _ cap c t h hx).mono ?_
    rintro e w' ⟨rfl, rfl⟩
    go_wp2_with fail
    refine (at_some _ B g cap c b y h hy).mono ?_
    rintro e w' ⟨rfl, rfl⟩
    clear h hx hy
    go_wp2_with fail
    go_quiet (fail)
    go_wp2
    go_ret
    exact ⟨rfl, below_drewN _ _⟩

theorem sees_none2 (w : World) (B : Nat) (A : Option Addr) (cap : Nat) (c : Clk) (t b : Int) (x : Tx) (h : ClkA w B A cap c) (hx : c.tx? t = some x) (hy : c.tx? b = none) :
    Calls Try.prog 20 #[.pointer (some ⟨B, 0, none⟩), .int .i64 t, .int .i64 b] w fun e w' => e = .returned (.bool false) ∧ Below w.heap.size w w' := by
  obtain ⟨g, rfl⟩ := h.some hx
  go_enter Try.func20, Try.ntmps20
  go_wp2_with fail
  refine (at_some _ B g cap c t x h hx).mono ?_
  rintro e w' ⟨rfl, rfl⟩
  go_wp2_with fail
  refine (at_none _ B _ cap c b h hy).mono ?_
  rintro e w' ⟨rfl, rfl⟩
  clear h hx hy
  go_wp2_with fail
  go_quiet (fail)
  go_wp2
  go_ret
  exact ⟨rfl, below_drewN _ _⟩

theorem info_txp : ∃ j, Try.prog.info? 79 = some j ∧ j.size = 3 := by
  obtain ⟨i0, hi, _, hz1, _⟩ := info_parts info_tx
  exact ⟨i0, hi, hz1⟩
theorem state_one {x : Tx} (h : x.live = true → x.as = 0) : (stateOf x == 1) = decide (0 < x.as) := by
  unfold stateOf
  cases hl : x.live
  · simp only [Bool.false_eq_true, if_false]
    split
    · rename_i h0; simp [h0]
    · rename_i h0; have : 0 < x.as := by omega
      simp [this]
  · rw [h hl]; rfl

/-- '==' between pointers at transactions. -/
theorem eql_tx (w : World) {B g cap : Nat} {c : Clk} (h : ClkA w B (some ⟨g, 0, none⟩) cap c) {t b : Int} {x y : Tx} (hx : c.tx? t = some x) (hy : c.tx? b = some y) :
    (binOp .eql 80 (.pointer (some ⟨g, (t.toNat - 1) * 3, none⟩)) (.pointer (some ⟨g, (b.toNat - 1) * 3, none⟩))).run Try.prog w = .ok (.bool (decide (t = b))) w := by
  obtain ⟨j, hj, hj3⟩ := info_txp
  obtain ⟨h1, h2⟩ := Clk.tx?_le hx
  obtain ⟨h3, h4⟩ := Clk.tx?_le hy
  obtain ⟨cur, hh⟩ := h.rowg (by omega)
  by_cases he : t = b
  · subst he
    rw [run_eql_ptr_same w _ Try.underlying80 hj]
    simp
  · rw [run_eql_ptr_other w Try.underlying80 hj (by omega) (fun e => by simp only [Addr.mk.injEq] at e; omega) hh hh]
    simp [he]

theorem sees_some (w : World) (B : Nat) (A : Option Addr) (cap : Nat) (c : Clk) (t b : Int) (x y : Tx) (h : ClkA w B A cap c) (hx : c.tx? t = some x) (hy : c.tx? b = some y) (hg : y.live = true → y.as = 0) :
    Calls Try.prog 20 #[.pointer (some ⟨B, 0, none⟩), .int .i64 t, .int .i64 b] w fun e w' => e = .returned (.bool (c.sees t b)) ∧ Below w.heap.size w w' := by
  obtain ⟨g, rfl⟩ := h.some hx
  have heq := fun n => eql_tx (w.drewN n) (h.drewN n) hx hy
  obtain ⟨_, dm, _⟩ := h.tx (Clk.tx?_eq hx)
  obtain ⟨ds, _, da⟩ := h.tx (Clk.tx?_eq hy)
  have HE : Hid (c.sees t b = (decide (t = b) || ((stateOf y == 1) && decide (y.as ≤ x.mark)))) := by
    unfold Clk.sees Clk.seesTx; rw [hx, hy, state_one hg]; rfl
  have c1 := at_some w B g cap c t x h hx
  have c2 := at_some w B g cap c b y h hy
  have C1 := hid c1
  have C2 := hid c2
  clear h hx hy hg c1 c2
  by_cases he : t = b
  · have h1 : decide (t = b) = true := by simp [he]
    simp only [h1] at heq
    rw [h1] at HE
    clear h1
    subst he
    go_enter Try.func20, Try.ntmps20
    go_wp2_with fail
    refine C1.out.mono ?_
    rintro e w' ⟨rfl, rfl⟩
    go_wp2_with fail
    refine C2.out.mono ?_
    rintro e w' ⟨rfl, rfl⟩
    go_wp2_with fail
    go_quiet (fail)
    go_wp2
    go_ret
    exact ⟨by rw [HE.out]; rfl, below_drewN _ _⟩
  · have h1 : decide (t = b) = false := by simp [he]
    simp only [h1] at heq
    rw [h1] at HE
    clear h1 he
    cases hs : stateOf y == 1
    · rw [hs] at HE
      go_enter Try.func20, Try.ntmps20
      go_wp2_with fail
      refine C1.out.mono ?_
      rintro e w' ⟨rfl, rfl⟩
      go_wp2_with fail
      refine C2.out.mono ?_
      rintro e w' ⟨rfl, rfl⟩
      go_wp2_with fail
      go_quiet (fail)
      go_wp2
      go_ret
      exact ⟨by rw [HE.out]; rfl, below_drewN _ _⟩
    · rw [hs] at HE
      go_enter Try.func20, Try.ntmps20
      go_wp2_with fail
      refine C1.out.mono ?_
      rintro e w' ⟨rfl, rfl⟩
      go_wp2_with fail
      refine C2.out.mono ?_
      rintro e w' ⟨rfl, rfl⟩
      go_wp2_with fail
      go_quiet (fail)
      go_wp2
      go_ret
      exact ⟨by rw [HE.out]; simp, below_drewN _ _⟩

theorem sees_any (w : World) (B : Nat) (A : Option Addr) (cap : Nat) (c : Clk) (t b : Int) (h : ClkA w B A cap c) (hg : c.Good) :
    Calls Try.prog 20 #[.pointer (some ⟨B, 0, none⟩), .int .i64 t, .int .i64 b] w fun e w' => e = .returned (.bool (c.sees t b)) ∧ Below w.heap.size w w' := by
  cases hx : c.tx? t with
  | none =>
    have : c.sees t b = false := by unfold Clk.sees; rw [hx]
    rw [this]
    exact sees_none1 w B A cap c t b h hx
  | some x =>
    cases hy : c.tx? b with
    | none =>
      have : c.sees t b = false := by unfold Clk.sees; rw [hx, hy]
      rw [this]
      exact sees_none2 w B A cap c t b x h hx hy
    | some y => exact sees_some w B A cap c t b x y h hx hy (hg.bare y (Clk.tx?_mem hy))
end Go.Proofs.Ytdgojfjaooindaa
