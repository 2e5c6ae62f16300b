/-
  Contracts of package clock's functions, more: Live, Aborted, Sees, Clashes.
-/
import Derived.Test.YtdfkdgnhpdgphaaGreatDoorSkw7
import Derived.Deep.QuietTactic
import Derived.BigQuiet
import Derived.LaidEqlPtr
namespace Go.Proofs.YtdfkdgnhpdgphaaGreatDoor
open Go.RowKit Go.Proofs.Lig

set_option maxRecDepth 100000 in
theorem live_any (w : World) (B : Nat) (A : Option Addr) (cap : Nat) (c : Clk) (t : Int) (h : ClkA w B A cap c) :
    Calls Tryz.prog 86 #[.pointer (some ⟨B, 0, none⟩), .int .i64 t] w fun e w' => e = .returned (.bool (c.live t)) ∧ w = w' := by
  cases hx : c.tx? t with
  | none =>
    have HE : Hid (c.live t = false) := by unfold Clk.live; rw [hx]; rfl
    go_enter Tryz.func86, Tryz.ntmps86
    go_wp2_with (go_at_call 159; refine (at_none _ B A cap c t h hx).mono ?_; rintro e w' ⟨rfl, rfl⟩)
    go_ret
    exact ⟨by rw [HE.out]; rfl, rfl⟩
  | some x =>
    obtain ⟨g, rfl⟩ := h.some hx
    obtain ⟨d0, _, _⟩ := h.tx (Clk.tx?_eq hx)
    have HE : Hid (c.live t = x.live) := by unfold Clk.live; rw [hx]; rfl
    have hs := state_eq x
    cases hl : x.live
    all_goals
      rw [hl] at hs HE
      go_enter Tryz.func86, Tryz.ntmps86
      go_wp2_with (go_at_call 159; refine (at_some _ B g cap c t x h hx).mono ?_; rintro e w' ⟨rfl, rfl⟩)
      go_ret
      exact ⟨by rw [HE.out]; rfl, rfl⟩

set_option maxRecDepth 100000 in
theorem state_aborted (x : Tx) : (stateOf x == 2) = (!x.live && x.as == 0) := by
  unfold stateOf
  cases x.live <;> simp
  split <;> simp [*]

set_option maxRecDepth 100000 in
theorem aborted_any (w : World) (B : Nat) (A : Option Addr) (cap : Nat) (c : Clk) (t : Int) (h : ClkA w B A cap c) :
    Calls Tryz.prog 87 #[.pointer (some ⟨B, 0, none⟩), .int .i64 t] w fun e w' => e = .returned (.bool (c.aborted t)) ∧ w = w' := by
  cases hx : c.tx? t with
  | none =>
    have HE : Hid (c.aborted t = false) := by unfold Clk.aborted; rw [hx]; rfl
    go_enter Tryz.func87, Tryz.ntmps87
    go_wp2_with (go_at_call 159; refine (at_none _ B A cap c t h hx).mono ?_; rintro e w' ⟨rfl, rfl⟩)
    go_ret
    exact ⟨by rw [HE.out]; rfl, rfl⟩
  | some x =>
    obtain ⟨g, rfl⟩ := h.some hx
    obtain ⟨d0, _, _⟩ := h.tx (Clk.tx?_eq hx)
    have hs := state_aborted x
    have HE : Hid (c.aborted t = (stateOf x == 2)) := by unfold Clk.aborted; rw [hx]; exact hs.symm
    clear hs
    cases hl : stateOf x == 2
    all_goals
      rw [hl] at HE
      go_enter Tryz.func87, Tryz.ntmps87
      go_wp2_with (go_at_call 159; refine (at_some _ B g cap c t x h hx).mono ?_; rintro e w' ⟨rfl, rfl⟩)
      go_ret
      exact ⟨by rw [HE.out]; rfl, rfl⟩

set_option maxRecDepth 100000 in
theorem below_drewN (w : World) (n : Nat) : Below w.heap.size w (w.drewN n) := ⟨rfl, rfl, rfl, Nat.le_refl _, fun _ _ => rfl⟩

theorem sees_none1 (w : World) (B : Nat) (A : Option Addr) (cap : Nat) (c : Clk) (t b : Int) (h : ClkA w B A cap c) (hx : c.tx? t = none) :
    Calls Tryz.prog 271 #[.pointer (some ⟨B, 0, none⟩), .int .i64 t, .int .i64 b] w fun e w' => e = .returned (.bool false) ∧ Below w.heap.size w w' := by
  cases hy : c.tx? b with
  | none =>
    go_enter Tryz.func271, Tryz.ntmps271
    go_wp2_with fail
    refine (at_none _ B A cap c t h hx).mono ?_
    rintro e w' ⟨rfl, rfl⟩
    go_wp2_with fail
    refine (at_none _ B A cap c b h hy).mono ?_
    rintro e w' ⟨rfl, rfl⟩
    clear h hx hy
    go_wp2_with fail
    go_quiet (fail)
    go_wp2
    go_ret
    exact ⟨rfl, below_drewN _ _⟩
  | some y =>
    obtain ⟨g, rfl⟩ := h.some hy
    go_enter Tryz.func271, Tryz.ntmps271
    go_wp2_with fail
    refine (at_none _ B _ cap c t h hx).mono ?_
    rintro e w' ⟨rfl, rfl⟩
    go_wp2_with fail
    refine (at_some _ B g cap c b y h hy).mono ?_
    rintro e w' ⟨rfl, rfl⟩
    clear h hx hy
    go_wp2_with fail
    go_quiet (fail)
    go_wp2
    go_ret
    exact ⟨rfl, below_drewN _ _⟩

set_option maxRecDepth 100000 in
theorem sees_none2 (w : World) (B : Nat) (A : Option Addr) (cap : Nat) (c : Clk) (t b : Int) (x : Tx) (h : ClkA w B A cap c) (hx : c.tx? t = some x) (hy : c.tx? b = none) :
    Calls Tryz.prog 271 #[.pointer (some ⟨B, 0, none⟩), .int .i64 t, .int .i64 b] w fun e w' => e = .returned (.bool false) ∧ Below w.heap.size w w' := by
  obtain ⟨g, rfl⟩ := h.some hx
  go_enter Tryz.func271, Tryz.ntmps271
  go_wp2_with fail
  refine (at_some _ B g cap c t x h hx).mono ?_
  rintro e w' ⟨rfl, rfl⟩
  go_wp2_with fail
  refine (at_none _ B _ cap c b h hy).mono ?_
  rintro e w' ⟨rfl, rfl⟩
  clear h hx hy
  go_wp2_with fail
  go_quiet (fail)
  go_wp2
  go_ret
  exact ⟨rfl, below_drewN _ _⟩

set_option maxRecDepth 100000 in
theorem info_txp : ∃ j, Tryz.prog.info? 237 = some j ∧ j.size = 3 := by
  obtain ⟨i0, hi, _, hz1, _⟩ := info_parts info_tx
  exact ⟨i0, hi, hz1⟩
set_option maxRecDepth 100000 in
theorem state_one {x : Tx} (h : x.live = true → x.as = 0) : (stateOf x == 1) = decide (0 < x.as) := by
  unfold stateOf
  cases hl : x.live
  · simp only [Bool.false_eq_true, if_false]
    split
    · rename_i h0; simp [h0]
    · rename_i h0; have : 0 < x.as := by omega
      simp [this]
  · rw [h hl]; rfl

set_option maxRecDepth 100000 in
/-- '==' between pointers at transactions. -/
theorem eql_tx (w : World) {B g cap : Nat} {c : Clk} (h : ClkA w B (some ⟨g, 0, none⟩) cap c) {t b : Int} {x y : Tx} (hx : c.tx? t = some x) (hy : c.tx? b = some y) :
    (binOp .eql 265 (.pointer (some ⟨g, (t.toNat - 1) * 3, none⟩)) (.pointer (some ⟨g, (b.toNat - 1) * 3, none⟩))).run Tryz.prog w = .ok (.bool (decide (t = b))) w := by
  obtain ⟨j, hj, hj3⟩ := info_txp
  obtain ⟨h1, h2⟩ := Clk.tx?_le hx
  obtain ⟨h3, h4⟩ := Clk.tx?_le hy
  obtain ⟨cur, hh⟩ := h.rowg (by omega)
  by_cases he : t = b
  · subst he
    rw [run_eql_ptr_same w _ Tryz.underlying265 hj]
    simp
  · rw [run_eql_ptr_other w Tryz.underlying265 hj (by omega) (fun e => by simp only [Addr.mk.injEq] at e; omega) hh hh]
    simp [he]

set_option maxRecDepth 100000 in
theorem sees_some (w : World) (B : Nat) (A : Option Addr) (cap : Nat) (c : Clk) (t b : Int) (x y : Tx) (h : ClkA w B A cap c) (hx : c.tx? t = some x) (hy : c.tx? b = some y) (hg : y.live = true → y.as = 0) :
    Calls Tryz.prog 271 #[.pointer (some ⟨B, 0, none⟩), .int .i64 t, .int .i64 b] w fun e w' => e = .returned (.bool (c.sees t b)) ∧ Below w.heap.size w w' := by
  obtain ⟨g, rfl⟩ := h.some hx
  have heq := fun n => eql_tx (w.drewN n) (h.drewN n) hx hy
  obtain ⟨_, dm, _⟩ := h.tx (Clk.tx?_eq hx)
  obtain ⟨ds, _, da⟩ := h.tx (Clk.tx?_eq hy)
  have HE : Hid (c.sees t b = (decide (t = b) || ((stateOf y == 1) && decide (y.as ≤ x.mark)))) := by
    unfold Clk.sees Clk.seesTx; rw [hx, hy, state_one hg]; rfl
  have c1 := at_some w B g cap c t x h hx
  have c2 := at_some w B g cap c b y h hy
  have C1 := hid c1
  have C2 := hid c2
  clear h hx hy hg c1 c2
  by_cases he : t = b
  · have h1 : decide (t = b) = true := by simp [he]
    simp only [h1] at heq
    rw [h1] at HE
    clear h1
    subst he
    go_enter Tryz.func271, Tryz.ntmps271
    go_wp2_with fail
    refine C1.out.mono ?_
    rintro e w' ⟨rfl, rfl⟩
    go_wp2_with fail
    refine C2.out.mono ?_
    rintro e w' ⟨rfl, rfl⟩
    go_wp2_with fail
    go_quiet (fail)
    go_wp2
    go_ret
    exact ⟨by rw [HE.out]; rfl, below_drewN _ _⟩
  · have h1 : decide (t = b) = false := by simp [he]
    simp only [h1] at heq
    rw [h1] at HE
    clear h1 he
    cases hs : stateOf y == 1
    · rw [hs] at HE
      go_enter Tryz.func271, Tryz.ntmps271
      go_wp2_with fail
      refine C1.out.mono ?_
      rintro e w' ⟨rfl, rfl⟩
      go_wp2_with fail
      refine C2.out.mono ?_
      rintro e w' ⟨rfl, rfl⟩
      go_wp2_with fail
      go_quiet (fail)
      go_wp2
      go_ret
      exact ⟨by rw [HE.out]; rfl, below_drewN _ _⟩
    · rw [hs] at HE
      go_enter Tryz.func271, Tryz.ntmps271
      go_wp2_with fail
      refine C1.out.mono ?_
      rintro e w' ⟨rfl, rfl⟩
      go_wp2_with fail
      refine C2.out.mono ?_
      rintro e w' ⟨rfl, rfl⟩
      go_wp2_with fail
      go_quiet (fail)
      go_wp2
      go_ret
      exact ⟨by rw [HE.out]; simp, below_drewN _ _⟩

set_option maxRecDepth 100000 in
theorem sees_any (w : World) (B : Nat) (A : Option Addr) (cap : Nat) (c : Clk) (t b : Int) (h : ClkA w B A cap c) (hg : c.Good) :
    Calls Tryz.prog 271 #[.pointer (some ⟨B, 0, none⟩), .int .i64 t, .int .i64 b] w fun e w' => e = .returned (.bool (c.sees t b)) ∧ Below w.heap.size w w' := by
  cases hx : c.tx? t with
  | none =>
    have : c.sees t b = false := by unfold Clk.sees; rw [hx]
    rw [this]
    exact sees_none1 w B A cap c t b h hx
  | some x =>
    cases hy : c.tx? b with
    | none =>
      have : c.sees t b = false := by unfold Clk.sees; rw [hx, hy]
      rw [this]
      exact sees_none2 w B A cap c t b x h hx hy
    | some y => exact sees_some w B A cap c t b x y h hx hy (hg.bare y (Clk.tx?_mem hy))
end Go.Proofs.YtdfkdgnhpdgphaaGreatDoor

/-
  Contracts of package clock's functions, more: Clashes, Settled.
-/
namespace Go.Proofs.YtdfkdgnhpdgphaaGreatDoor
open Go.RowKit Go.Proofs.Lig

section
variable {P : Program} (w : World)
set_option maxRecDepth 100000 in
theorem run_neq_ptr_same' {tp te : TypeId} {j : TypeInfo} (a : Addr) (hp : P.underlying tp = some (.pointer te)) (hte : P.info? te = some j) :
    (binOp .neq tp (.pointer (some a)) (.pointer (some a))).run P w = .ok (.bool false) w := by
  have h : ∀ d : Nat, (Op.equalIn (d + 1) tp (.pointer (some a)) (.pointer (some a))).run P w = .ok true w := fun d => by
    simp [Op.equalIn, run_underlying hp, sizeOf, typeInfo, hte, run_sameAddr_same]
  simp only [binOp]
  simp [Op.equal, Op.maxDepth, h 9999]
set_option maxRecDepth 100000 in
theorem run_neq_ptr_other' {tp te : TypeId} {j : TypeInfo} {a b : Addr} {ca cb : Array Value} {ta tb : TypeId} (hp : P.underlying tp = some (.pointer te)) (hte : P.info? te = some j) (hsz : j.size ≠ 0)
    (hne : a ≠ b) (ha : w.heap[a.block]? = some (.cells ca ta (0, 0))) (hb : w.heap[b.block]? = some (.cells cb tb (0, 0))) :
    (binOp .neq tp (.pointer (some a)) (.pointer (some b))).run P w = .ok (.bool true) w := by
  have h : ∀ d : Nat, (Op.equalIn (d + 1) tp (.pointer (some a)) (.pointer (some b))).run P w = .ok false w := fun d => by
    simp [Op.equalIn, run_underlying hp, sizeOf, typeInfo, hte, hsz, run_sameAddr_other w hne ha hb]
  simp only [binOp]
  simp [Op.equal, Op.maxDepth, h 9999]
end

set_option maxRecDepth 100000 in
theorem neq_tx (w : World) {B g cap : Nat} {c : Clk} (h : ClkA w B (some ⟨g, 0, none⟩) cap c) {t b : Int} {x y : Tx} (hx : c.tx? t = some x) (hy : c.tx? b = some y) :
    (binOp .neq 265 (.pointer (some ⟨g, (t.toNat - 1) * 3, none⟩)) (.pointer (some ⟨g, (b.toNat - 1) * 3, none⟩))).run Tryz.prog w = .ok (.bool (!decide (t = b))) w := by
  obtain ⟨j, hj, hj3⟩ := info_txp
  obtain ⟨h1, h2⟩ := Clk.tx?_le hx
  obtain ⟨h3, h4⟩ := Clk.tx?_le hy
  obtain ⟨cur, hh⟩ := h.rowg (by omega)
  by_cases he : t = b
  · subst he
    rw [run_neq_ptr_same' w _ Tryz.underlying265 hj]
    simp
  · rw [run_neq_ptr_other' w Tryz.underlying265 hj (by omega) (fun e => by simp only [Addr.mk.injEq] at e; omega) hh hh]
    simp [he]

set_option maxRecDepth 100000 in
theorem clashes_none (w : World) (B : Nat) (A : Option Addr) (cap : Nat) (c : Clk) (t b : Int) (h : ClkA w B A cap c) (hn : c.tx? t = none ∨ c.tx? b = none) :
    Calls Tryz.prog 308 #[.pointer (some ⟨B, 0, none⟩), .int .i64 t, .int .i64 b] w fun e w' => e = .returned (.bool false) ∧ Below w.heap.size w w' := by
  cases hx : c.tx? t with
  | none =>
    cases hy : c.tx? b with
    | none =>
      have C1 := hid (at_none w B A cap c t h hx)
      have C2 := hid (at_none w B A cap c b h hy)
      clear h hn hx hy
      go_enter Tryz.func308, Tryz.ntmps308
      go_wp2_with fail
      refine C1.out.mono ?_
      rintro e w' ⟨rfl, rfl⟩
      go_wp2_with fail
      refine C2.out.mono ?_
      rintro e w' ⟨rfl, rfl⟩
      go_wp2_with fail
      go_quiet (fail)
      go_wp2
      go_ret
      exact ⟨rfl, below_drewN _ _⟩
    | some y =>
      obtain ⟨g, rfl⟩ := h.some hy
      have C1 := hid (at_none w B _ cap c t h hx)
      have C2 := hid (at_some w B g cap c b y h hy)
      clear h hn hx hy
      go_enter Tryz.func308, Tryz.ntmps308
      go_wp2_with fail
      refine C1.out.mono ?_
      rintro e w' ⟨rfl, rfl⟩
      go_wp2_with fail
      refine C2.out.mono ?_
      rintro e w' ⟨rfl, rfl⟩
      go_wp2_with fail
      go_quiet (fail)
      go_wp2
      go_ret
      exact ⟨rfl, below_drewN _ _⟩
  | some x =>
    have hy : c.tx? b = none := by rcases hn with hn | hn; rw [hx] at hn; cases hn; exact hn
    obtain ⟨g, rfl⟩ := h.some hx
    have C1 := hid (at_some w B g cap c t x h hx)
    have C2 := hid (at_none w B _ cap c b h hy)
    clear h hn hx hy
    go_enter Tryz.func308, Tryz.ntmps308
    go_wp2_with fail
    refine C1.out.mono ?_
    rintro e w' ⟨rfl, rfl⟩
    go_wp2_with fail
    refine C2.out.mono ?_
    rintro e w' ⟨rfl, rfl⟩
    go_wp2_with fail
    go_quiet (fail)
    go_wp2
    go_ret
    exact ⟨rfl, below_drewN _ _⟩

set_option maxRecDepth 100000 in
theorem state_zero_one {y : Tx} (h : (stateOf y == 0) = true) : (stateOf y == 1) = false := by
  rw [beq_iff_eq] at h; rw [h]; rfl

set_option maxRecDepth 100000 in
theorem clashes_some (w : World) (B : Nat) (A : Option Addr) (cap : Nat) (c : Clk) (t b : Int) (x y : Tx) (h : ClkA w B A cap c) (hx : c.tx? t = some x) (hy : c.tx? b = some y) (hg : y.live = true → y.as = 0) :
    Calls Tryz.prog 308 #[.pointer (some ⟨B, 0, none⟩), .int .i64 t, .int .i64 b] w fun e w' => e = .returned (.bool (c.clashes t b)) ∧ Below w.heap.size w w' := by
  obtain ⟨g, rfl⟩ := h.some hx
  have hneq := fun n => neq_tx (w.drewN n) (h.drewN n) hx hy
  obtain ⟨_, dm, _⟩ := h.tx (Clk.tx?_eq hx)
  obtain ⟨ds, _, da⟩ := h.tx (Clk.tx?_eq hy)
  have HE : Hid (c.clashes t b = (!decide (t = b) && ((stateOf y == 0) || ((stateOf y == 1) && decide (x.mark < y.as))))) := by
    have hc : Clk.clashes c t b = (!decide (t = b) && Clk.clashTx x y) := by unfold Clk.clashes; rw [hx, hy]
    show _ = _
    rw [hc, state_one hg, state_eq]
    unfold Clk.clashTx
    by_cases h0 : 0 < y.as
    · simp [h0]
    · have : y.as = 0 := by omega
      simp [this]
  have C1 := hid (at_some w B g cap c t x h hx)
  have C2 := hid (at_some w B g cap c b y h hy)
  clear h hx hy hg
  have hz := @state_zero_one y
  cases he : decide (t = b) <;> cases h0 : (stateOf y == 0) <;> cases h1 : (stateOf y == 1)
  all_goals first
    | (exfalso; rw [h0, h1] at hz; simp at hz; done)
    | skip
  all_goals
    simp only [he] at hneq
    rw [he, h0, h1] at HE
    have HZ := hid he
    clear hz he
    go_enter Tryz.func308, Tryz.ntmps308
    go_wp2_with fail
    refine C1.out.mono ?_
    rintro e w' ⟨rfl, rfl⟩
    go_wp2_with fail
    refine C2.out.mono ?_
    rintro e w' ⟨rfl, rfl⟩
    go_wp2_with fail
    go_quiet (fail)
    go_wp2
    go_ret
    exact ⟨by rw [HE.out]; simp, below_drewN _ _⟩

set_option maxRecDepth 100000 in
theorem clashes_any (w : World) (B : Nat) (A : Option Addr) (cap : Nat) (c : Clk) (t b : Int) (h : ClkA w B A cap c) (hg : c.Good) :
    Calls Tryz.prog 308 #[.pointer (some ⟨B, 0, none⟩), .int .i64 t, .int .i64 b] w fun e w' => e = .returned (.bool (c.clashes t b)) ∧ Below w.heap.size w w' := by
  cases hx : c.tx? t with
  | none =>
    have : c.clashes t b = false := by unfold Clk.clashes; rw [hx]
    rw [this]
    exact clashes_none w B A cap c t b h (.inl hx)
  | some x =>
    cases hy : c.tx? b with
    | none =>
      have : c.clashes t b = false := by unfold Clk.clashes; rw [hx, hy]
      rw [this]
      exact clashes_none w B A cap c t b h (.inr hy)
    | some y => exact clashes_some w B A cap c t b x y h hx hy (hg.bare y (Clk.tx?_mem hy))
end Go.Proofs.YtdfkdgnhpdgphaaGreatDoor

/-
  Contracts of package clock's functions, more: Settled.
-/
namespace Go.Proofs.YtdfkdgnhpdgphaaGreatDoor
open Go.RowKit Go.Proofs.Lig

set_option maxRecDepth 100000 in
theorem settled_none (w : World) (B : Nat) (A : Option Addr) (cap : Nat) (c : Clk) (b : Int) (h : ClkA w B A cap c) (hx : c.tx? b = none) :
    Calls Tryz.prog 248 #[.pointer (some ⟨B, 0, none⟩), .int .i64 b] w fun e w' => e = .returned (.bool false) ∧ Below w.heap.size w w' := by
  have C1 := hid (at_none w B A cap c b h hx)
  clear h hx
  go_enter Tryz.func248, Tryz.ntmps248
  go_wp2_with fail
  refine C1.out.mono ?_
  rintro e w' ⟨rfl, rfl⟩
  go_wp2
  go_ret
  exact ⟨rfl, Below.refl _ _⟩

set_option maxRecDepth 100000 in
theorem settled_not (w : World) (B : Nat) (A : Option Addr) (cap : Nat) (c : Clk) (b : Int) (y : Tx) (h : ClkA w B A cap c) (hy : c.tx? b = some y) (hs : (stateOf y != 1) = true) :
    Calls Tryz.prog 248 #[.pointer (some ⟨B, 0, none⟩), .int .i64 b] w fun e w' => e = .returned (.bool false) ∧ Below w.heap.size w w' := by
  obtain ⟨g, rfl⟩ := h.some hy
  obtain ⟨ds, _, da⟩ := h.tx (Clk.tx?_eq hy)
  have C1 := hid (at_some w B g cap c b y h hy)
  clear h hy
  go_enter Tryz.func248, Tryz.ntmps248
  go_wp2_with fail
  refine C1.out.mono ?_
  rintro e w' ⟨rfl, rfl⟩
  go_wp2
  go_ret
  exact ⟨rfl, Below.refl _ _⟩

set_option maxHeartbeats 800000 in
set_option maxRecDepth 100000 in
theorem settled_some (w : World) (B : Nat) (A : Option Addr) (cap : Nat) (c : Clk) (b : Int) (y : Tx) (h : ClkA w B A cap c) (hy : c.tx? b = some y) (hs : (stateOf y != 1) = false) :
    Calls Tryz.prog 248 #[.pointer (some ⟨B, 0, none⟩), .int .i64 b] w fun e w' => e = .returned (.bool (!(c.l.any (Clk.blocks y)))) ∧ Below w.heap.size w w' := by
  have h3 := h.len
  have hc := h.blk.cell 0
  simp only [List.getElem?_cons_zero] at hc
  obtain ⟨g, rfl⟩ := h.some hy
  have hg0 : g < w.heap.size := by
    obtain ⟨q1, q2⟩ := Clk.tx?_le hy
    obtain ⟨cur, hh⟩ := h.rowg (by omega)
    exact (Array.getElem?_eq_some_iff.1 hh).1
  obtain ⟨ds, _, da⟩ := h.tx (Clk.tx?_eq hy)
  have C1 := hid (at_some w B g cap c b y h hy)
  have H := hid h
  clear h hy
  go_enter Tryz.func248, Tryz.ntmps248
  go_wp2_with fail
  refine C1.out.mono ?_
  rintro e w' ⟨rfl, rfl⟩
  go_wp2
  go_loopw [25] (fun i wr => ∃ k : Nat, k ≤ c.l.length ∧ (c.l.take k).any (Clk.blocks y) = false ∧ i = .int .i64 (k : Int) ∧ Below w.heap.size w wr) (fun i _ => c.l.length - (intOf i).toNat)
  case atStart => exact ⟨0, Nat.zero_le _, rfl, rfl, Below.refl _ _⟩
  case round =>
    obtain ⟨k, hk, hany, rfl, hb⟩ := hrel
    have HA := hid hany
    clear hany
    by_cases hlt : k < c.l.length
    · obtain ⟨x, hx⟩ : ∃ x, c.l[k]? = some x := ⟨_, List.getElem?_eq_getElem hlt⟩
      obtain ⟨c0, c1, c2⟩ := H.out.tx hx
      have d0 := (hb.cell (p := ⟨g, k * 3, none⟩) hg0).trans c0
      have d1 := (hb.cell (p := ⟨g, k * 3 + 1, none⟩) hg0).trans c1
      have d2 := (hb.cell (p := ⟨g, k * 3 + 2, none⟩) hg0).trans c2
      have d3 := (hb.cell (p := ⟨g, (b.toNat - 1) * 3 + 2, none⟩) hg0).trans da
      have hgr : g < wr.heap.size := Nat.lt_of_lt_of_le hg0 hb.size
      have d4 := (World.cell?_alloc_lt wr (.cells #[.int .i64 (stateOf x), .int .i64 (x.mark : Int), .int .i64 (x.as : Int)] 237) ⟨g, (b.toNat - 1) * 3 + 2, none⟩ hgr).trans d3
      have HT := hid (Clk.any_take c.l k x y hx)
      have hbb : Clk.blocks y x = (x.live && decide (x.mark < y.as)) := rfl
      have hst := state_eq x
      have hsz := hb.size
      have HX := hid (List.mem_of_getElem? hx)
      clear hx c0 c1 c2 hc da ds
      cases hl : x.live
      · rw [hl] at hst hbb
        have HB := hid hbb
        clear hl hbb
        go_wp2_with fail
        go_quiet (fail)
        go_wp2
        go_roundw
        case rel => exact ⟨k + 1, by omega, by rw [HT.out, HA.out, HB.out]; rfl, by go_num, bdrewN (hb.alloc hb.size _) _⟩
        case measure => simp [intOf]; omega
      · rw [hl] at hst hbb
        have HB := hid hbb
        clear hl hbb
        cases hm : decide (x.mark < y.as)
        · have HB2 := hid (HB.out.trans (by rw [hm]; rfl) : Clk.blocks y x = false)
          go_wp2_with fail
          go_quiet (fail)
          go_wp2
          go_roundw
          case rel => exact ⟨k + 1, by omega, by rw [HT.out, HA.out, HB2.out]; rfl, by go_num, bdrewN (hb.alloc hb.size _) _⟩
          case measure => simp [intOf]; omega
        · have HB2 := hid (HB.out.trans (by rw [hm]; rfl) : Clk.blocks y x = true)
          have HF : Hid (c.l.any (Clk.blocks y) = true) := by
            show _ = _
            rw [List.any_eq_true]
            exact ⟨x, HX.out, HB2.out⟩
          go_wp2_with fail
          go_quiet (fail)
          go_wp2
          go_ret
          exact ⟨by rw [HF.out]; rfl, bdrewN (hb.alloc hb.size _) _⟩
    · obtain rfl : k = c.l.length := by omega
      have HT : Hid (c.l.any (Clk.blocks y) = false) := by have := HA.out; rwa [List.take_length] at this
      go_wp2
      go_ret
      exact ⟨by rw [HT.out]; rfl, hb⟩

set_option maxRecDepth 100000 in
theorem settled_any (w : World) (B : Nat) (A : Option Addr) (cap : Nat) (c : Clk) (b : Int) (h : ClkA w B A cap c) (hg : c.Good) :
    Calls Tryz.prog 248 #[.pointer (some ⟨B, 0, none⟩), .int .i64 b] w fun e w' => e = .returned (.bool (c.settled b)) ∧ Below w.heap.size w w' := by
  cases hy : c.tx? b with
  | none =>
    have : c.settled b = false := by unfold Clk.settled; rw [hy]
    rw [this]
    exact settled_none w B A cap c b h hy
  | some y =>
    have h1 := state_one (hg.bare y (Clk.tx?_mem hy))
    have h2 : c.settled b = ((stateOf y == 1) && !(c.l.any (Clk.blocks y))) := by unfold Clk.settled; rw [hy, h1]
    cases hs : stateOf y == 1
    · rw [hs] at h2
      rw [h2]
      exact settled_not w B A cap c b y h hy (by unfold bne; rw [hs]; rfl)
    · rw [hs] at h2
      rw [h2]
      exact settled_some w B A cap c b y h hy (by unfold bne; rw [hs]; rfl)
end Go.Proofs.YtdfkdgnhpdgphaaGreatDoor

/-
  Contracts of package clock's functions, more: Commit, Abort; all of them where the receiver is nil.
-/
namespace Go.Proofs.YtdfkdgnhpdgphaaGreatDoor
open Go.RowKit Go.Proofs.Lig

set_option maxRecDepth 100000 in
theorem encTxs_cons (x : Tx) (l : List Tx) : encTxs (x :: l) = encTx x ++ encTxs l := rfl
theorem encTxs_set (l : List Tx) (i : Nat) (x x' : Tx) (h : l[i]? = some x) (hm : x'.mark = x.mark) :
    encTxs (l.set i x') = ((encTxs l).set (i * 3) (.int .i64 (stateOf x'))).set (i * 3 + 2) (.int .i64 (x'.as : Int)) := by
  induction l generalizing i with
  | nil => simp at h
  | cons y l ih =>
    cases i with
    | zero =>
      simp only [List.getElem?_cons_zero, Option.some.injEq] at h
      subst h
      simp [encTxs_cons, encTx, hm]
    | succ i =>
      simp only [List.getElem?_cons_succ] at h
      have := ih i h
      simp only [List.set_cons_succ, encTxs_cons, this]
      have e1 : (i + 1) * 3 = (encTx y).length + i * 3 := by simp [encTx]; omega
      have e2 : (i + 1) * 3 + 2 = (encTx y).length + (i * 3 + 2) := by simp [encTx]; omega
      rw [e2, e1, List.set_append_right _ _ (by omega), List.set_append_right _ _ (by omega)]
      simp
set_option maxRecDepth 100000 in
theorem encTxs_set0 (l : List Tx) (i : Nat) (x x' : Tx) (h : l[i]? = some x) (hm : x'.mark = x.mark) (ha : x'.as = x.as) :
    encTxs (l.set i x') = (encTxs l).set (i * 3) (.int .i64 (stateOf x')) := by
  induction l generalizing i with
  | nil => simp at h
  | cons y l ih =>
    cases i with
    | zero =>
      simp only [List.getElem?_cons_zero, Option.some.injEq] at h
      subst h
      simp [encTxs_cons, encTx, hm, ha]
    | succ i =>
      simp only [List.getElem?_cons_succ] at h
      have := ih i h
      simp only [List.set_cons_succ, encTxs_cons, this]
      have e1 : (i + 1) * 3 = (encTx y).length + i * 3 := by simp [encTx]; omega
      rw [e1, List.set_append_right _ _ (by omega)]
      simp

set_option maxRecDepth 100000 in
/-- What Commit's three stores make of the clock. -/
theorem committed_shut {w : World} {B g cap : Nat} {c : Clk} {t : Int} {x : Tx} (h : ClkA w B (some ⟨g, 0, none⟩) cap c) (hx : c.tx? t = some x) :
    ClkA (((w.setCell ⟨B, 1, none⟩ (.int .i64 ((c.n : Int) + 1))).setCell ⟨g, (t.toNat - 1) * 3, none⟩ (.int .i64 1)).setCell ⟨g, (t.toNat - 1) * 3 + 2, none⟩ (.int .i64 ((c.n : Int) + 1))) B (some ⟨g, 0, none⟩) cap (c.committed t) := by
  have hne : g ≠ B := fun e => own_ne h.own h.blk (by decide) (by simp [Value.ownBlock, e])
  have hl : (c.committed t).l.length = c.l.length := Clk.length_committed c t
  have hc : c.committed t = ⟨c.l.set (t.toNat - 1) ⟨x.mark, c.n + 1, false⟩, c.n + 1⟩ := by unfold Clk.committed Clk.put; rw [hx]
  refine ⟨?_, ?_⟩
  · rw [hl, hc]
    have := ((h.blk.set_ 1 (.int .i64 ((c.n : Int) + 1))).far (p := ⟨g, (t.toNat - 1) * 3, none⟩) (Ne.symm hne) (.int .i64 1)).far (p := ⟨g, (t.toNat - 1) * 3 + 2, none⟩) (Ne.symm hne) (.int .i64 ((c.n : Int) + 1))
    simpa using this
  · rw [hl, hc]
    have h0 := own_far h.own (p := ⟨B, 1, none⟩) (by simp [Value.ownBlock, hne]) (.int .i64 ((c.n : Int) + 1))
    have h1 := (h0.stored ((t.toNat - 1) * 3) (.int .i64 1)).1
    have h2 := (h1.stored ((t.toNat - 1) * 3 + 2) (.int .i64 ((c.n : Int) + 1))).1
    have e := encTxs_set c.l (t.toNat - 1) x ⟨x.mark, c.n + 1, false⟩ (Clk.tx?_eq hx) rfl
    show World.ownsRow _ _ _ _ _ _ (encTxs (c.l.set (t.toNat - 1) ⟨x.mark, c.n + 1, false⟩))
    rw [e]
    simpa [stateOf] using h2
set_option maxRecDepth 100000 in
theorem dropped_shut {w : World} {B g cap : Nat} {c : Clk} {t : Int} {x : Tx} (h : ClkA w B (some ⟨g, 0, none⟩) cap c) (hx : c.tx? t = some x) (h0 : x.as = 0) :
    ClkA (w.setCell ⟨g, (t.toNat - 1) * 3, none⟩ (.int .i64 2)) B (some ⟨g, 0, none⟩) cap (c.dropped t) := by
  have hne : g ≠ B := fun e => own_ne h.own h.blk (by decide) (by simp [Value.ownBlock, e])
  have hl : (c.dropped t).l.length = c.l.length := Clk.length_dropped c t
  have hc : c.dropped t = ⟨c.l.set (t.toNat - 1) ⟨x.mark, x.as, false⟩, c.n⟩ := by unfold Clk.dropped Clk.put; rw [hx]
  refine ⟨?_, ?_⟩
  · rw [hl, hc]
    exact h.blk.far (p := ⟨g, (t.toNat - 1) * 3, none⟩) (Ne.symm hne) (.int .i64 2)
  · rw [hl, hc]
    have h1 := (h.own.stored ((t.toNat - 1) * 3) (.int .i64 2)).1
    have e := encTxs_set0 c.l (t.toNat - 1) x ⟨x.mark, x.as, false⟩ (Clk.tx?_eq hx) rfl rfl
    show World.ownsRow _ _ _ _ _ _ (encTxs (c.l.set (t.toNat - 1) ⟨x.mark, x.as, false⟩))
    rw [e]
    simpa [stateOf, h0] using h1

set_option maxRecDepth 100000 in
theorem commit_not (w : World) (B : Nat) (A : Option Addr) (cap : Nat) (c : Clk) (t : Int) (h : ClkA w B A cap c) (hl : c.live t = false) :
    Calls Tryz.prog 83 #[.pointer (some ⟨B, 0, none⟩), .int .i64 t] w fun e w' => e = .returned (.int .i64 5) ∧ w = w' := by
  have C1 := live_any w B A cap c t h
  rw [hl] at C1
  have C1 := hid C1
  clear h hl
  go_enter Tryz.func83, Tryz.ntmps83
  go_wp2_with fail
  refine C1.out.mono ?_
  rintro e w' ⟨rfl, rfl⟩
  go_wp2
  go_ret
  exact ⟨rfl, rfl⟩
set_option maxRecDepth 100000 in
theorem abort_not (w : World) (B : Nat) (A : Option Addr) (cap : Nat) (c : Clk) (t : Int) (h : ClkA w B A cap c) (hl : c.live t = false) :
    Calls Tryz.prog 125 #[.pointer (some ⟨B, 0, none⟩), .int .i64 t] w fun e w' => e = .returned (.int .i64 5) ∧ w = w' := by
  have C1 := live_any w B A cap c t h
  rw [hl] at C1
  have C1 := hid C1
  clear h hl
  go_enter Tryz.func125, Tryz.ntmps125
  go_wp2_with fail
  refine C1.out.mono ?_
  rintro e w' ⟨rfl, rfl⟩
  go_wp2
  go_ret
  exact ⟨rfl, rfl⟩

set_option maxRecDepth 100000 in
theorem live_some {c : Clk} {t : Int} (h : c.live t = true) : ∃ x, c.tx? t = some x ∧ x.live = true := by
  unfold Clk.live at h
  split at h
  · rename_i x hx; exact ⟨x, hx, h⟩
  · cases h

set_option maxRecDepth 100000 in
theorem abort_ok (w : World) (B : Nat) (A : Option Addr) (cap : Nat) (c : Clk) (t : Int) (h : ClkA w B A cap c) (hl : c.live t = true) (hg : c.Good) :
    Calls Tryz.prog 125 #[.pointer (some ⟨B, 0, none⟩), .int .i64 t] w fun e w' => e = .returned (.int .i64 0) ∧ ClkA w' B A cap (c.dropped t) ∧ Fr (B :: (Value.slice A c.l.length cap).ownBlock.toList) w w' := by
  obtain ⟨x, hx, hxl⟩ := live_some hl
  obtain ⟨g, rfl⟩ := h.some hx
  obtain ⟨d0, d1, d2⟩ := h.tx (Clk.tx?_eq hx)
  have f0 := World.ownsRow.frozenAt h.own ((t.toNat - 1) * 3)
  have HS := hid (dropped_shut h hx (hg.bare x (Clk.tx?_mem hx) hxl))
  have C1 := live_any w B _ cap c t h
  rw [hl] at C1
  have C1 := hid C1
  have C2 := hid (at_some w B g cap c t x h hx)
  clear h hl hx hxl hg
  go_enter Tryz.func125, Tryz.ntmps125
  go_wp2_with fail
  refine C1.out.mono ?_
  rintro e w' ⟨rfl, rfl⟩
  go_wp2_with fail
  refine C2.out.mono ?_
  rintro e w' ⟨rfl, rfl⟩
  go_wp2
  go_ret
  exact ⟨rfl, HS.out, (Fr.refl _ _).setCell (.inl (by simp [Value.ownBlock])) _⟩

set_option maxRecDepth 100000 in
theorem commit_ok (w : World) (B : Nat) (A : Option Addr) (cap : Nat) (c : Clk) (t : Int) (h : ClkA w B A cap c) (hl : c.live t = true) (hn : c.n ≤ 1000000) :
    Calls Tryz.prog 83 #[.pointer (some ⟨B, 0, none⟩), .int .i64 t] w fun e w' => e = .returned (.int .i64 0) ∧ ClkA w' B A cap (c.committed t) ∧ Fr (B :: (Value.slice A c.l.length cap).ownBlock.toList) w w' := by
  obtain ⟨x, hx, hxl⟩ := live_some hl
  obtain ⟨g, rfl⟩ := h.some hx
  obtain ⟨d0, d1, d2⟩ := h.tx (Clk.tx?_eq hx)
  have f0 := World.ownsRow.frozenAt h.own ((t.toNat - 1) * 3)
  have f2 := World.ownsRow.frozenAt h.own ((t.toNat - 1) * 3 + 2)
  have hne : g ≠ B := fun e => own_ne h.own h.blk (by decide) (by simp [Value.ownBlock, e])
  have b1 := h.blk.cell 1
  have fb := h.blk.frozen 1
  simp only [List.getElem?_cons_zero, List.getElem?_cons_succ] at b1
  have hn' : (c.n : Int) ≤ 1000000 := by omega
  have HS := hid (committed_shut h hx)
  have C1 := live_any w B _ cap c t h
  rw [hl] at C1
  have C1 := hid C1
  have hat : ∀ w2, ClkA w2 B (some ⟨g, 0, none⟩) cap ⟨c.l, c.n + 1⟩ → Calls Tryz.prog 159 #[.pointer (some ⟨B, 0, none⟩), .int .i64 t] w2 fun e w' => e = .returned (.pointer (some ⟨g, (t.toNat - 1) * 3, none⟩)) ∧ w2 = w' :=
    fun w2 h2 => at_some w2 B g cap ⟨c.l, c.n + 1⟩ t x h2 hx
  have C2 := hid (hat (w.setCell ⟨B, 1, none⟩ (.int .i64 ((c.n : Int) + 1))) ⟨by simpa using h.blk.set_ 1 (.int .i64 ((c.n : Int) + 1)), own_far h.own (p := ⟨B, 1, none⟩) (by simp [Value.ownBlock, hne]) _⟩)
  clear h hl hx hxl hn hat
  go_enter Tryz.func83, Tryz.ntmps83
  go_wp2_with fail
  refine C1.out.mono ?_
  rintro e w' ⟨rfl, rfl⟩
  go_wp2_with fail
  refine C2.out.mono ?_
  rintro e w' ⟨rfl, rfl⟩
  go_wp2
  go_ret
  exact ⟨rfl, HS.out, (((Fr.refl _ _).setCell (.inl (by simp)) _).setCell (.inl (by simp [Value.ownBlock])) _).setCell (.inl (by simp [Value.ownBlock])) _⟩
end Go.Proofs.YtdfkdgnhpdgphaaGreatDoor

/-
  Contracts of package clock's functions over a clock with its footprint: the blocks that it lies in. What each returns is given by an equation, so that a caller may hand in a numeral.
-/
namespace Go.Proofs.YtdfkdgnhpdgphaaGreatDoor
open Go.RowKit Go.Proofs.Lig

/-- The clock c lies in block B; S are the blocks that it lies in. -/
def ClkS (w : World) (B : Nat) (S : List Nat) (c : Clk) : Prop := ∃ A cap, ClkA w B A cap c ∧ S = B :: (Value.slice A c.l.length cap).ownBlock.toList

set_option maxRecDepth 100000 in
theorem ClkS.fr {w w' : World} {B : Nat} {S S' : List Nat} {c : Clk} (h : ClkS w B S c) (hf : Fr S' w w') (hd : ∀ k ∈ S, k ∉ S') : ClkS w' B S c := by
  obtain ⟨A, cap, h, rfl⟩ := h
  exact ⟨A, cap, ⟨h.blk.fr hf (hd B (by simp)), own_fr h.own hf (fun k hk => hd k (by simp [hk]))⟩, rfl⟩
set_option maxRecDepth 100000 in
theorem ClkS.below {w w' : World} {B : Nat} {S : List Nat} {c : Clk} (h : ClkS w B S c) (hb : Below w.heap.size w w') : ClkS w' B S c :=
  h.fr (S' := []) (Fr.of_below hb (Nat.le_refl _)) (by simp)
theorem ClkS.lt {w : World} {B : Nat} {S : List Nat} {c : Clk} (h : ClkS w B S c) : ∀ k ∈ S, k < w.heap.size := by
  obtain ⟨A, cap, h, rfl⟩ := h
  intro k hk
  rcases List.mem_cons.1 hk with rfl | hk
  · exact h.blk.lt
  · exact own_lt h.own (by simpa using hk)
set_option maxRecDepth 100000 in
theorem ClkS.mem {w : World} {B : Nat} {S : List Nat} {c : Clk} (h : ClkS w B S c) : B ∈ S := by
  obtain ⟨A, cap, h, rfl⟩ := h
  simp

/-- The element types of the blocks that a clock lies in. -/
abbrev clkT : List TypeId := [235, 237]
set_option maxRecDepth 100000 in
theorem ClkS.typed {w : World} {B : Nat} {S : List Nat} {c : Clk} (h : ClkS w B S c) : ∀ k ∈ S, ∃ cs t fr, w.heap[k]? = some (.cells cs t fr) ∧ t ∈ clkT := by
  obtain ⟨A, cap, h, rfl⟩ := h
  intro k hk
  rcases List.mem_cons.1 hk with rfl | hk
  · exact ⟨_, _, _, h.blk, by simp⟩
  · have hk : (Value.slice A c.l.length cap).ownBlock = some k := by simpa using hk
    rcases h.own.2 with ⟨h0, _⟩ | ⟨g, cap', cur, hv, _, hh, _⟩
    · rw [h0] at hk; simp [Value.ownBlock] at hk
    · rw [hv] at hk
      have : g = k := by simpa [Value.ownBlock] using hk
      subst this
      exact ⟨_, _, _, hh, by simp⟩
set_option maxRecDepth 100000 in
theorem ClkS.tfr {w w' : World} {B : Nat} {S : List Nat} {c : Clk} {ts : List TypeId} (h : ClkS w B S c) (hf : TFr ts w w') (hd : ∀ t ∈ clkT, t ∉ ts) : ClkS w' B S c := by
  obtain ⟨A, cap, h, rfl⟩ := h
  exact ⟨A, cap, ⟨h.blk.tfr hf (hd _ (by simp)), own_tfr h.own hf (hd _ (by simp))⟩, rfl⟩

/-- .. and all of these blocks lie at N or beyond, of a world that has not turned what lay below N. -/
structure ClkN (N : Nat) (w0 w : World) (B : Nat) (c : Clk) : Prop where
  lo : N ≤ w0.heap.size
  below : Below N w0 w
  clk : ∃ S, ClkS w B S c ∧ ∀ k ∈ S, N ≤ k

set_option maxRecDepth 100000 in
theorem ClkN.step {N : Nat} {w0 w w' : World} {B : Nat} {c : Clk} (h : ClkN N w0 w B c) (hb : Below w.heap.size w w') : ClkN N w0 w' B c := by
  obtain ⟨hl, hw, S, hc, hs⟩ := h
  exact ⟨hl, hw.trans (hb.mono (Nat.le_trans hl hw.size)), S, hc.below hb, hs⟩
set_option maxRecDepth 100000 in
theorem ClkN.tfr {N : Nat} {w0 w w' : World} {B : Nat} {c : Clk} {ts : List TypeId} (h : ClkN N w0 w B c) (hf : TFr ts w w') (hb : Below N w w') (hd : ∀ t ∈ clkT, t ∉ ts) : ClkN N w0 w' B c := by
  obtain ⟨hl, hw, S, hc, hs⟩ := h
  exact ⟨hl, hw.trans hb, S, hc.tfr hf hd, hs⟩
set_option maxRecDepth 100000 in
theorem ClkN.turn {N : Nat} {w0 w w' : World} {B : Nat} {S S' : List Nat} {c' : Clk} (hl : N ≤ w0.heap.size) (hw : Below N w0 w) (hs : ∀ k ∈ S, N ≤ k) (hc : ClkS w' B S' c') (hsub : Sub S' S w.heap.size) (hf : Fr S w w') : ClkN N w0 w' B c' :=
  ⟨hl, hw.trans (hf.below (Nat.le_trans hl hw.size) hs), S', hc, fun k hk => by
    rcases hsub k hk with h1 | h1
    · exact hs k h1
    · exact Nat.le_trans (Nat.le_trans hl hw.size) h1⟩

set_option maxRecDepth 100000 in
theorem new_S (w : World) : Calls Tryz.prog 70 #[] w fun e w' => e = .returned (.pointer (some ⟨w.heap.size, 0, none⟩)) ∧ ClkS w' w.heap.size [w.heap.size] Clk.new ∧ Below w.heap.size w w' :=
  (new_any w).mono fun _ _ ⟨he, hc, hw⟩ => ⟨he, ⟨none, 0, hc, rfl⟩, by rw [hw]; exact (Below.refl _ _).alloc (Nat.le_refl _) _⟩
theorem count_S (w : World) (B : Nat) (S : List Nat) (c : Clk) (h : ClkS w B S c) (v : Int) (hv : (c.count : Int) = v) :
    Calls Tryz.prog 60 #[.pointer (some ⟨B, 0, none⟩)] w fun e w' => e = .returned (.int .i64 v) ∧ Below w.heap.size w w' := by
  obtain ⟨A, cap, h, rfl⟩ := h
  rw [← hv]
  exact count_any w B A cap c h
set_option maxRecDepth 100000 in
theorem begin_full_S (w : World) (B : Nat) (S : List Nat) (c : Clk) (h : ClkS w B S c) (hf : 4 ≤ c.count) :
    Calls Tryz.prog 80 #[.pointer (some ⟨B, 0, none⟩)] w fun e w' => e = .returned (.tuple #[.int .i64 0, .int .i64 3]) ∧ Below w.heap.size w w' := by
  obtain ⟨A, cap, h, rfl⟩ := h
  exact begin_full w B A cap c h hf
set_option maxRecDepth 100000 in
theorem begin_S (w : World) (B : Nat) (S : List Nat) (c : Clk) (h : ClkS w B S c) (hf : c.count < 4) (hn : c.l.length ≤ 1000000) (v : Int) (hv : (c.l.length : Int) + 1 = v) :
    Calls Tryz.prog 80 #[.pointer (some ⟨B, 0, none⟩)] w fun e w' => e = .returned (.tuple #[.int .i64 v, .int .i64 0]) ∧
      ∃ S', ClkS w' B S' c.began ∧ Sub S' S w.heap.size ∧ Fr S w w' := by
  obtain ⟨A, cap, h, rfl⟩ := h
  rw [← hv]
  refine (begin_ok w B A cap c h hf hn).mono ?_
  rintro e w' ⟨he, A', cap', h', hs, hfr⟩
  exact ⟨he, _, ⟨A', cap', h', rfl⟩, hs, hfr⟩
set_option maxRecDepth 100000 in
theorem live_S (w : World) (B : Nat) (S : List Nat) (c : Clk) (t : Int) (h : ClkS w B S c) (v : Bool) (hv : c.live t = v) :
    Calls Tryz.prog 86 #[.pointer (some ⟨B, 0, none⟩), .int .i64 t] w fun e w' => e = .returned (.bool v) ∧ w = w' := by
  obtain ⟨A, cap, h, rfl⟩ := h
  rw [← hv]
  exact live_any w B A cap c t h
set_option maxRecDepth 100000 in
theorem aborted_S (w : World) (B : Nat) (S : List Nat) (c : Clk) (t : Int) (h : ClkS w B S c) (v : Bool) (hv : c.aborted t = v) :
    Calls Tryz.prog 87 #[.pointer (some ⟨B, 0, none⟩), .int .i64 t] w fun e w' => e = .returned (.bool v) ∧ w = w' := by
  obtain ⟨A, cap, h, rfl⟩ := h
  rw [← hv]
  exact aborted_any w B A cap c t h
set_option maxRecDepth 100000 in
theorem sees_S (w : World) (B : Nat) (S : List Nat) (c : Clk) (t b : Int) (h : ClkS w B S c) (hg : c.Good) (v : Bool) (hv : c.sees t b = v) :
    Calls Tryz.prog 271 #[.pointer (some ⟨B, 0, none⟩), .int .i64 t, .int .i64 b] w fun e w' => e = .returned (.bool v) ∧ Below w.heap.size w w' := by
  obtain ⟨A, cap, h, rfl⟩ := h
  rw [← hv]
  exact sees_any w B A cap c t b h hg
set_option maxRecDepth 100000 in
theorem clashes_S (w : World) (B : Nat) (S : List Nat) (c : Clk) (t b : Int) (h : ClkS w B S c) (hg : c.Good) (v : Bool) (hv : c.clashes t b = v) :
    Calls Tryz.prog 308 #[.pointer (some ⟨B, 0, none⟩), .int .i64 t, .int .i64 b] w fun e w' => e = .returned (.bool v) ∧ Below w.heap.size w w' := by
  obtain ⟨A, cap, h, rfl⟩ := h
  rw [← hv]
  exact clashes_any w B A cap c t b h hg
set_option maxRecDepth 100000 in
theorem settled_S (w : World) (B : Nat) (S : List Nat) (c : Clk) (b : Int) (h : ClkS w B S c) (hg : c.Good) (v : Bool) (hv : c.settled b = v) :
    Calls Tryz.prog 248 #[.pointer (some ⟨B, 0, none⟩), .int .i64 b] w fun e w' => e = .returned (.bool v) ∧ Below w.heap.size w w' := by
  obtain ⟨A, cap, h, rfl⟩ := h
  rw [← hv]
  exact settled_any w B A cap c b h hg
set_option maxRecDepth 100000 in
theorem commit_not_S (w : World) (B : Nat) (S : List Nat) (c : Clk) (t : Int) (h : ClkS w B S c) (hl : c.live t = false) :
    Calls Tryz.prog 83 #[.pointer (some ⟨B, 0, none⟩), .int .i64 t] w fun e w' => e = .returned (.int .i64 5) ∧ w = w' := by
  obtain ⟨A, cap, h, rfl⟩ := h
  exact commit_not w B A cap c t h hl
set_option maxRecDepth 100000 in
theorem abort_not_S (w : World) (B : Nat) (S : List Nat) (c : Clk) (t : Int) (h : ClkS w B S c) (hl : c.live t = false) :
    Calls Tryz.prog 125 #[.pointer (some ⟨B, 0, none⟩), .int .i64 t] w fun e w' => e = .returned (.int .i64 5) ∧ w = w' := by
  obtain ⟨A, cap, h, rfl⟩ := h
  exact abort_not w B A cap c t h hl
set_option maxRecDepth 100000 in
theorem commit_S (w : World) (B : Nat) (S : List Nat) (c : Clk) (t : Int) (h : ClkS w B S c) (hl : c.live t = true) (hn : c.n ≤ 1000000) :
    Calls Tryz.prog 83 #[.pointer (some ⟨B, 0, none⟩), .int .i64 t] w fun e w' => e = .returned (.int .i64 0) ∧ ClkS w' B S (c.committed t) ∧ Fr S w w' := by
  obtain ⟨A, cap, h, rfl⟩ := h
  refine (commit_ok w B A cap c t h hl hn).mono ?_
  rintro e w' ⟨he, h', hf⟩
  exact ⟨he, ⟨A, cap, h', by rw [Clk.length_committed]⟩, hf⟩
set_option maxRecDepth 100000 in
theorem abort_S (w : World) (B : Nat) (S : List Nat) (c : Clk) (t : Int) (h : ClkS w B S c) (hl : c.live t = true) (hg : c.Good) :
    Calls Tryz.prog 125 #[.pointer (some ⟨B, 0, none⟩), .int .i64 t] w fun e w' => e = .returned (.int .i64 0) ∧ ClkS w' B S (c.dropped t) ∧ Fr S w w' := by
  obtain ⟨A, cap, h, rfl⟩ := h
  refine (abort_ok w B A cap c t h hl hg).mono ?_
  rintro e w' ⟨he, h', hf⟩
  exact ⟨he, ⟨A, cap, h', by rw [Clk.length_dropped]⟩, hf⟩

/-! ### The same over 'ClkN' -/
section
variable {N : Nat} {w0 w : World} {B : Nat} {c : Clk}
set_option maxRecDepth 100000 in
theorem new_N (w : World) : Calls Tryz.prog 70 #[] w fun e w' => e = .returned (.pointer (some ⟨w.heap.size, 0, none⟩)) ∧ ClkN w.heap.size w w' w.heap.size Clk.new ∧ TFr clkT w w' :=
  (new_S w).mono fun _ _ ⟨he, hc, hb⟩ => ⟨he, ⟨Nat.le_refl _, hb, _, hc, by simp⟩, .of_below hb⟩
theorem begin_N (h : ClkN N w0 w B c) (hf : c.count < 4) (hn : c.l.length ≤ 1000000) (v : Int) (hv : (c.l.length : Int) + 1 = v) :
    Calls Tryz.prog 80 #[.pointer (some ⟨B, 0, none⟩)] w fun e w' => e = .returned (.tuple #[.int .i64 v, .int .i64 0]) ∧ ClkN N w0 w' B c.began ∧ TFr clkT w w' := by
  obtain ⟨hl, hw, S, hc, hs⟩ := h
  refine (begin_S w B S c hc hf hn v hv).mono ?_
  rintro e w' ⟨he, S', hc', hs', hfr⟩
  exact ⟨he, ClkN.turn hl hw hs hc' hs' hfr, .of_fr hfr hc.typed⟩
set_option maxRecDepth 100000 in
theorem begin_full_N (h : ClkN N w0 w B c) (hf : 4 ≤ c.count) :
    Calls Tryz.prog 80 #[.pointer (some ⟨B, 0, none⟩)] w fun e w' => e = .returned (.tuple #[.int .i64 0, .int .i64 3]) ∧ ClkN N w0 w' B c ∧ TFr clkT w w' := by
  obtain ⟨S, hc, hs⟩ := h.clk
  exact (begin_full_S w B S c hc hf).mono fun _ _ ⟨he, hb⟩ => ⟨he, h.step hb, .of_below hb⟩
set_option maxRecDepth 100000 in
theorem commit_N (h : ClkN N w0 w B c) (t : Int) (hlv : c.live t = true) (hn : c.n ≤ 1000000) :
    Calls Tryz.prog 83 #[.pointer (some ⟨B, 0, none⟩), .int .i64 t] w fun e w' => e = .returned (.int .i64 0) ∧ ClkN N w0 w' B (c.committed t) ∧ TFr clkT w w' := by
  obtain ⟨hl, hw, S, hc, hs⟩ := h
  exact (commit_S w B S c t hc hlv hn).mono fun _ _ ⟨he, h', hf⟩ => ⟨he, ClkN.turn hl hw hs h' (Sub.refl _ _) hf, .of_fr hf hc.typed⟩
set_option maxRecDepth 100000 in
theorem abort_N (h : ClkN N w0 w B c) (t : Int) (hlv : c.live t = true) (hg : c.Good) :
    Calls Tryz.prog 125 #[.pointer (some ⟨B, 0, none⟩), .int .i64 t] w fun e w' => e = .returned (.int .i64 0) ∧ ClkN N w0 w' B (c.dropped t) ∧ TFr clkT w w' := by
  obtain ⟨hl, hw, S, hc, hs⟩ := h
  exact (abort_S w B S c t hc hlv hg).mono fun _ _ ⟨he, h', hf⟩ => ⟨he, ClkN.turn hl hw hs h' (Sub.refl _ _) hf, .of_fr hf hc.typed⟩
set_option maxRecDepth 100000 in
theorem commit_not_N (h : ClkN N w0 w B c) (t : Int) (hlv : c.live t = false) :
    Calls Tryz.prog 83 #[.pointer (some ⟨B, 0, none⟩), .int .i64 t] w fun e w' => e = .returned (.int .i64 5) ∧ w = w' := by
  obtain ⟨S, hc, hs⟩ := h.clk
  exact commit_not_S w B S c t hc hlv
set_option maxRecDepth 100000 in
theorem abort_not_N (h : ClkN N w0 w B c) (t : Int) (hlv : c.live t = false) :
    Calls Tryz.prog 125 #[.pointer (some ⟨B, 0, none⟩), .int .i64 t] w fun e w' => e = .returned (.int .i64 5) ∧ w = w' := by
  obtain ⟨S, hc, hs⟩ := h.clk
  exact abort_not_S w B S c t hc hlv
set_option maxRecDepth 100000 in
theorem count_N (h : ClkN N w0 w B c) (v : Int) (hv : (c.count : Int) = v) :
    Calls Tryz.prog 60 #[.pointer (some ⟨B, 0, none⟩)] w fun e w' => e = .returned (.int .i64 v) ∧ ClkN N w0 w' B c ∧ TFr clkT w w' := by
  obtain ⟨S, hc, hs⟩ := h.clk
  exact (count_S w B S c hc v hv).mono fun _ _ ⟨he, hb⟩ => ⟨he, h.step hb, .of_below hb⟩
set_option maxRecDepth 100000 in
theorem live_N (h : ClkN N w0 w B c) (t : Int) (v : Bool) (hv : c.live t = v) :
    Calls Tryz.prog 86 #[.pointer (some ⟨B, 0, none⟩), .int .i64 t] w fun e w' => e = .returned (.bool v) ∧ w = w' := by
  obtain ⟨S, hc, hs⟩ := h.clk
  exact live_S w B S c t hc v hv
set_option maxRecDepth 100000 in
theorem aborted_N (h : ClkN N w0 w B c) (t : Int) (v : Bool) (hv : c.aborted t = v) :
    Calls Tryz.prog 87 #[.pointer (some ⟨B, 0, none⟩), .int .i64 t] w fun e w' => e = .returned (.bool v) ∧ w = w' := by
  obtain ⟨S, hc, hs⟩ := h.clk
  exact aborted_S w B S c t hc v hv
set_option maxRecDepth 100000 in
theorem sees_N (h : ClkN N w0 w B c) (t b : Int) (hg : c.Good) (v : Bool) (hv : c.sees t b = v) :
    Calls Tryz.prog 271 #[.pointer (some ⟨B, 0, none⟩), .int .i64 t, .int .i64 b] w fun e w' => e = .returned (.bool v) ∧ ClkN N w0 w' B c ∧ TFr clkT w w' := by
  obtain ⟨S, hc, hs⟩ := h.clk
  exact (sees_S w B S c t b hc hg v hv).mono fun _ _ ⟨he, hb⟩ => ⟨he, h.step hb, .of_below hb⟩
set_option maxRecDepth 100000 in
theorem clashes_N (h : ClkN N w0 w B c) (t b : Int) (hg : c.Good) (v : Bool) (hv : c.clashes t b = v) :
    Calls Tryz.prog 308 #[.pointer (some ⟨B, 0, none⟩), .int .i64 t, .int .i64 b] w fun e w' => e = .returned (.bool v) ∧ ClkN N w0 w' B c ∧ TFr clkT w w' := by
  obtain ⟨S, hc, hs⟩ := h.clk
  exact (clashes_S w B S c t b hc hg v hv).mono fun _ _ ⟨he, hb⟩ => ⟨he, h.step hb, .of_below hb⟩
set_option maxRecDepth 100000 in
theorem settled_N (h : ClkN N w0 w B c) (b : Int) (hg : c.Good) (v : Bool) (hv : c.settled b = v) :
    Calls Tryz.prog 248 #[.pointer (some ⟨B, 0, none⟩), .int .i64 b] w fun e w' => e = .returned (.bool v) ∧ ClkN N w0 w' B c ∧ TFr clkT w w' := by
  obtain ⟨S, hc, hs⟩ := h.clk
  exact (settled_S w B S c b hc hg v hv).mono fun _ _ ⟨he, hb⟩ => ⟨he, h.step hb, .of_below hb⟩
end
end Go.Proofs.YtdfkdgnhpdgphaaGreatDoor
