/-
  Contracts of package clock's functions, more: Clashes, Settled.
-/
import Derived.Test.YtdgojfjaooindaaClkC
namespace Go.Proofs.Ytdgojfjaooindaa
open Go.RowKit Go.Proofs.Lig

section
variable {P : Program} (w : World)
theorem run_neq_ptr_same' {tp te : TypeId} {j : TypeInfo} (a : Addr) (hp : P.underlying tp = some (.pointer te)) (hte : P.info? te = some j) :
    (binOp .neq tp (.pointer (some a)) (.pointer (some a))).run P w = .ok (.bool false) w := by
  have h : ∀ d : Nat, (Op.equalIn (d + 1) tp (.pointer (some a)) (.pointer (some a))).run P w = .ok true w := fun d => by
    simp [Op.equalIn, run_underlying hp, sizeOf, typeInfo, hte, run_sameAddr_same]
  simp only [binOp]
  simp [Op.equal, Op.maxDepth, h 9999]
theorem run_neq_ptr_other' {tp te : TypeId} {j : TypeInfo} {a b : Addr} {ca cb : Array Value} {ta tb : TypeId} (hp : P.underlying tp = some (.pointer te)) (hte : P.info? te = some j) (hsz : j.size ≠ 0)
    (hne : a ≠ b) (ha : w.heap[a.block]? = some (.cells ca ta (0, 0))) (hb : w.heap[b.block]? = some (.cells cb tb (0, 0))) :
    (binOp .neq tp (.pointer (some a)) (.pointer (some b))).run P w = .ok (.bool true) w := by
  have h : ∀ d : Nat, (Op.equalIn (d + 1) tp (.pointer (some a)) (.pointer (some b))).run P w = .ok false w := fun d => by
    simp [Op.equalIn, run_underlying hp, sizeOf, typeInfo, hte, hsz, run_sameAddr_other w hne ha hb]
  simp only [binOp]
  simp [Op.equal, Op.maxDepth, h 9999]
end

theorem neq_tx (w : World) {B g cap : Nat} {c : Clk} (h : ClkA w B (some ⟨g, 0, none⟩) cap c) {t b : Int} {x y : Tx} (hx : c.tx? t = some x) (hy : c.tx? b = some y) :
    (binOp .neq 80 (.pointer (some ⟨g, (t.toNat - 1) * 3, none⟩)) (.pointer (some ⟨g, (b.toNat - 1) * 3, none⟩))).run Try.prog w = .ok (.bool (!decide (t = b))) w := by
  obtain ⟨j, hj, hj3⟩ := info_txp
  obtain ⟨h1, h2⟩ := Clk.tx?_le hx
  obtain ⟨h3, h4⟩ := Clk.tx?_le hy
  obtain ⟨cur, hh⟩ := h.rowg (by omega)
  by_cases he : t = b
  · subst he
    rw [run_neq_ptr_same' w _ Try.underlying80 hj]
    simp
  · rw [run_neq_ptr_other' w Try.underlying80 hj (by omega) (fun e => by simp only [Addr.mk.injEq] at e; omega) hh hh]
    simp [he]

theorem clashes_none (w : World) (B : Nat) (A : Option Addr) (cap : Nat) (c : Clk) (t b : Int) (h : ClkA w B A cap c) (hn : c.tx? t = none ∨ c.tx? b = none) :
    Calls Try.prog 22 #[.pointer (some ⟨B, 0, none⟩), .int .i64 t, .int .i64 b] w fun e w' => e = .returned (.bool false) ∧ Below w.heap.size w w' := by
  cases hx : c.tx? t with
  | none =>
    cases hy : c.tx? b with
    | none =>
      have C1 := hid (at_none w B A cap c t h hx)
      have C2 := hid (at_none w B A cap c b h hy)
      clear h hn hx hy
      go_enter Try.func22, Try.ntmps22
      go_wp2_with fail
      refine C1.out.mono ?_
      rintro e w' ⟨rfl, rfl⟩
      go_wp2_with fail
      refine C2.out.mono ?_
      rintro e w' ⟨rfl, rfl⟩
      go_wp2_with fail
      go_quiet (fail)
      go_wp2
      go_ret
      exact ⟨rfl, below_drewN _ _⟩
    | some y =>
      obtain ⟨g, rfl⟩ := h.some hy
      have C1 := hid (at_none w B _ cap c t h hx)
      have C2 := hid (at_some w B g cap c b y h hy)
      clear h hn hx hy
      go_enter Try.func22, Try.ntmps22
      go_wp2_with fail
      refine C1.out.mono ?_
      rintro e w' ⟨rfl, rfl⟩
      go_wp2_with fail
      refine C2.out.mono ?_
      rintro e w' ⟨rfl, rfl⟩
      go_wp2_with fail
      go_quiet (fail)
      go_wp2
      go_ret
      exact ⟨rfl, below_drewN _ _⟩
  | some x =>
    have hy : c.tx? b = none := by rcases hn with hn | hn; rw [hx] at hn; cases hn; exact hn
    obtain ⟨g, rfl⟩ := h.some hx
    have C1 := hid (at_some w B g cap c t x h hx)
    have C2 := hid (at_none w B _ cap c b h hy)
    clear h hn hx hy
    go_enter Try.func22, Try.ntmps22
    go_wp2_with fail
    refine C1.out.mono ?_
    rintro e w' ⟨rfl, rfl⟩
    go_wp2_with fail
    refine C2.out.mono ?_
    rintro e w' ⟨rfl, rfl⟩
    go_wp2_with fail
    go_quiet (fail)
    go_wp2
    go_ret
    exact ⟨rfl, below_drewN _ _⟩

theorem state_zero_one {y : Tx} (h : (stateOf y == 0) = true) : (stateOf y == 1) = false := by
  rw [beq_iff_eq] at h; rw [h]; rfl

theorem clashes_some (w : World) (B : Nat) (A : Option Addr) (cap : Nat) (c : Clk) (t b : Int) (x y : Tx) (h : ClkA w B A cap c) (hx : c.tx? t = some x) (hy : c.tx? b = some y) (hg : y.live = true → y.as = 0) :
    Calls Try.prog 22 #[.pointer (some ⟨B, 0, none⟩), .int .i64 t, .int .i64 b] w fun e w' => e = .returned (.bool (c.clashes t b)) ∧ Below w.heap.size w w' := by
  obtain ⟨g, rfl⟩ := h.some hx
  have hneq := fun n => neq_tx (w.drewN n) (h.drewN n) hx hy
  obtain ⟨_, dm, _⟩ := h.tx (Clk.tx?_eq hx)
  obtain ⟨ds, _, da⟩ := h.tx (Clk.tx?_eq hy)
  have HE : Hid (c.clashes t b = (!decide (t = b) && ((stateOf y == 0) || ((stateOf y == 1) && decide (x.mark < y.as))))) := by
    have hc : Clk.clashes c t b = (!decide (t = b) && Clk.clashTx x y) := by unfold Clk.clashes; rw [hx, hy]
    show _ = _
    rw [hc, state_one hg, state_eq]
    unfold Clk.clashTx
    by_cases h0 : 0 < y.as
    · simp [h0]
    · have : y.as = 0 := by omega
      simp [this]
  have C1 := hid (at_some w B g cap c t x h hx)
  have C2 := hid (at_some w B g cap c b y h hy)
  clear h hx hy hg
  have hz := @state_zero_one y
  cases he : decide (t = b) <;> cases h0 : (stateOf y == 0) <;> cases h1 : (stateOf y == 1)
  all_goals first
    | (exfalso; rw [h0, h1] at hz; simp at hz; done)
    | skip
  all_goals
    simp only [he] at hneq
    rw [he, h0, h1] at HE
    have HZ := hid he
    clear hz he
    go_enter Try.func22, Try.ntmps22
    go_wp2_with fail
    refine C1.out.mono ?_
    rintro e w' ⟨rfl, rfl⟩
    go_wp2_with fail
    refine C2.out.mono ?_
    rintro e w' ⟨rfl, rfl⟩
    go_wp2_with fail
    go_quiet (fail)
    go_wp2
    go_ret
    exact ⟨by rw [HE.out]; simp, below_drewN _ _⟩

theorem clashes_any (w : World) (B : Nat) (A : Option Addr) (cap : Nat) (c : Clk) (t b : Int) (h : ClkA w B A cap c) (hg : c.Good) :
    Calls Try.prog 22 #[.pointer (some ⟨B, 0, none⟩), .int .i64 t, .int .i64 b] w fun e w' => e = .returned (.bool (c.clashes t b)) ∧ Below w.heap.size w w' := by
  cases hx : c.tx? t with
  | none =>
    have : c.clashes t b = false := by unfold Clk.clashes; rw [hx]
    rw [this]
    exact clashes_none w B A cap c t b h (.inl hx)
  | some x =>
    cases hy : c.tx? b with
    | none =>
      have : c.clashes t b = false := by unfold Clk.clashes; rw [hx, hy]
      rw [this]
      exact clashes_none w B A cap c t b h (.inr hy)
    | some y => exact clashes_some w B A cap c t b x y h hx hy (hg.bare y (Clk.tx?_mem hy))
end Go.Proofs.Ytdgojfjaooindaa
