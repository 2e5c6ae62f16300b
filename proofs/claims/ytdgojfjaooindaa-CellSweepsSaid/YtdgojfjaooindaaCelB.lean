/-
  Contracts of a cell of ints, more: Check, Write.
-/
import Derived.Test.YtdgojfjaooindaaCelA
namespace Go.Proofs.Ytdgojfjaooindaa
open Go.RowKit Go.Proofs.Lig

theorem ClkS.drewN {w : World} {B : Nat} {S : List Nat} {c : Clk} (h : ClkS w B S c) (n : Nat) : ClkS (w.drewN n) B S c := h.below (below_drewN w n)

set_option maxHeartbeats 400000 in
set_option maxRecDepth 100000 in
theorem cel_check_some (w : World) (X : Nat) (A : Option Addr) (cap : Nat) (l : List (Ver Int)) (B : Nat) (S : List Nat) (c : Clk) (t : Int) (y : Ver Int) (h : CelA w X A cap l) (hc : ClkS w B S c) (hg : c.Good) (hy : l.getLast? = some y) (v : Bool) (hv : c.clashes t y.who = v) :
    Calls Try.prog 44 #[.pointer (some ⟨X, 0, none⟩), .pointer (some ⟨B, 0, none⟩), .int .i64 t] w fun e w' => e = .returned (.int .i64 (if v then 6 else 0)) ∧ Below w.heap.size w w' := by
  obtain ⟨n, hn⟩ : ∃ n, l.length = n + 1 := by
    cases l with
    | nil => simp at hy
    | cons a l => exact ⟨l.length, by simp⟩
  obtain ⟨g, rfl, hgw⟩ := h.form (by omega)
  have hx := h.blk.cell 0
  simp only [List.getElem?_cons_zero] at hx
  have hln := h.len
  have hyn : l[n]? = some y := by rw [List.getLast?_eq_getElem?, hn] at hy; exact hy
  obtain ⟨c0, _, _⟩ := row_ver h.own hyn
  rw [hn] at hx hln
  have hX := h.blk.lt
  have HC := hid hc
  have HG := hid hg
  have HV := hid hv
  have hq0 : (0 : Int) ≤ (n : Int) := by omega
  have hq1 : (n : Int) < (n : Int) + 1 := by omega
  have hwr : IntKind.i64.wrap ((n : Int) + 1 - 1) = (n : Int) := by rw [IntKind.wrap_i64]; omega
  have hwr2 : IntKind.i64.wrap (n : Int) = (n : Int) := by rw [IntKind.wrap_i64]; omega
  clear h hc hg hy hyn hn hv
  cases v
  all_goals
    go_enter Try.func44, Try.ntmps44
    go_wp2
    go_region_held3 (fun w' => w'.cell? ⟨X, 0, none⟩ = some (.slice (some ⟨g, 0, none⟩) (n + 1) cap) ∧ w'.cell? ⟨g, n * 3, none⟩ = some (.int .i64 y.who))
      (first
        | exact ⟨(hb.cell (p := ⟨X, 0, none⟩) hX).trans hx, (hb.cell (p := ⟨g, n * 3, none⟩) hgw).trans c0⟩
        | go_keep)
      (first
        | (go_at_call 22; refine (clashes_S _ B S c t y.who (by exact HC.out.drewN 1) HG.out _ HV.out).mono ?_; rintro e wa ⟨rfl, hb⟩))
    clear hwr hwr2 hx c0 hln
    go_wp2
    go_ret
    exact ⟨rfl, (below_drewN w 1).trans hb⟩
end Go.Proofs.Ytdgojfjaooindaa
