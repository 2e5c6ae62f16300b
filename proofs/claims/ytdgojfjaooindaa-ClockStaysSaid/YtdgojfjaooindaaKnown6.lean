/-
  The contract of ligaturelaw6.known: it answers true, and what lay before is as it was.
-/
import Derived.Test.YtdgojfjaooindaaClkS
namespace Go.Proofs.Ytdgojfjaooindaa
open Go.RowKit Go.Proofs.Lig

theorem known6 (w : World) : Calls Try.prog 24 #[] w fun e w' => e = .returned (.bool true) ∧ Below w.heap.size w w' := by
  have G2 : Clk.new.began.began.Good := (Clk.good_new.began).began
  have G3 := hid (G2.committed 1)
  clear G2
  go_enter Try.func24, Try.ntmps24
  go_wp2_with fail
  refine (new_N w).mono ?_
  rintro e w1 ⟨rfl, h1, _⟩
  go_wp2_with fail
  refine (begin_N h1 (by decide) (by decide) 1 (by decide)).mono ?_
  rintro e w2 ⟨rfl, h2, _⟩
  clear h1
  go_wp2_with fail
  refine (begin_N h2 (by decide) (by decide) 2 (by decide)).mono ?_
  rintro e w3 ⟨rfl, h3, _⟩
  clear h2
  go_wp2_with fail
  refine (commit_N h3 1 (by decide) (by decide)).mono ?_
  rintro e w4 ⟨rfl, h4, _⟩
  clear h3
  go_wp2_with fail
  refine (sees_N h4 2 1 G3.out false (by decide)).mono ?_
  rintro e w5 ⟨rfl, h5, _⟩
  clear h4
  go_wp2_with fail
  refine (clashes_N h5 2 1 G3.out true (by decide)).mono ?_
  rintro e w6 ⟨rfl, h6, _⟩
  clear h5
  go_wp2_with fail
  refine (settled_N h6 1 G3.out false (by decide)).mono ?_
  rintro e w7 ⟨rfl, h7, _⟩
  clear h6
  go_wp2_with fail
  refine (sees_N h7 2 2 G3.out true (by decide)).mono ?_
  rintro e w8 ⟨rfl, h8, _⟩
  clear h7
  go_wp2_with fail
  go_ret
  exact ⟨rfl, h8.below⟩
end Go.Proofs.Ytdgojfjaooindaa
