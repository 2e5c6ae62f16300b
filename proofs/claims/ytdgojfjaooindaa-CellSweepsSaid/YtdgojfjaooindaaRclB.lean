/-
  The reference's cell: Check.
-/
import Derived.Test.YtdgojfjaooindaaRclA
namespace Go.Proofs.Ytdgojfjaooindaa.Rcl
open Go.RowKit Go.Proofs.Lig

theorem r_check_none (w : World) (X : Nat) (A : Option Addr) (cap : Nat) (C : Option Addr) (t : Int) (h : CelA w X A cap []) :
    Calls Try.prog 64 #[.pointer (some ⟨X, 0, none⟩), .pointer C, .int .i64 t] w fun e w' => e = .returned (.int .i64 0) ∧ w = w' := by
  have hc := h.blk.cell 0
  simp only [List.getElem?_cons_zero, List.length_nil] at hc
  go_enter Try.func64, Try.ntmps64
  go_wp2_with fail
  go_ret
  exact ⟨rfl, rfl⟩
set_option maxRecDepth 100000 in
theorem r_check_some (w w0 : World) (N X : Nat) (A : Option Addr) (cap : Nat) (l : List (Ver Int)) (B : Nat) (c : Clk) (t : Int) (y : Ver Int) (h : CelA w X A cap l) (hc : RefN N w0 w B c) (hy : l.getLast? = some y) (v : Bool) (hv : c.clashes t y.who = v) :
    Calls Try.prog 64 #[.pointer (some ⟨X, 0, none⟩), .pointer (some ⟨B, 0, none⟩), .int .i64 t] w fun e w' => e = .returned (.int .i64 (if v then 6 else 0)) ∧ RefN N w0 w' B c ∧ TFr refT w w' := by
  obtain ⟨n, hn⟩ : ∃ n, l.length = n + 1 := by
    cases l with
    | nil => simp at hy
    | cons a l => exact ⟨l.length, by simp⟩
  obtain ⟨g, rfl, hgw⟩ := h.form (by omega)
  have hx := h.blk.cell 0
  simp only [List.getElem?_cons_zero] at hx
  have hln := h.len
  have hyn : l[n]? = some y := by rw [List.getLast?_eq_getElem?, hn] at hy; exact hy
  obtain ⟨c0, _, _⟩ := row_ver h.own hyn
  rw [hn] at hx hln
  have HH := hid (r_clashes_N hc t y.who v hv)
  clear h hc hy hyn hn hv
  cases v
  all_goals
    go_enter Try.func64, Try.ntmps64
    go_wp2_with fail
    refine HH.out.mono ?_
    rintro e w' ⟨rfl, h1, h2⟩
    have H1 := hid h1
    have H2 := hid h2
    clear h1 h2 hx c0 hln
    go_wp2_with fail
    go_ret
    exact ⟨rfl, H1.out, H2.out⟩
end Go.Proofs.Ytdgojfjaooindaa.Rcl
