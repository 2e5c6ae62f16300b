/-
  The contract of ligaturelaw7's world.act. (Printed by mk/act7.py.)
-/
import Derived.Test.YtdgojfjaooindaaRclIc
namespace Go.Proofs.Ytdgojfjaooindaa
open Go.RowKit Go.Proofs.Lig

section
variable {N : Nat} {w0 w : World} {Z B X D Y : Nat} {n : Int} {c : Clk} {l : List (Ver Int)}

/-- An act in both: they do not part. -/
theorem act7_any (h : ZW N w0 w Z B X D Y (c.l.length : Int) c l c l) (hF : Fine (c, l)) (hc : c.l.length ≤ 1000000) (hn : c.n ≤ 1000000) (hl : l.length ≤ 1000000) (k t v : Int) (g : Bool) :
    Calls Try.prog 46 #[.pointer (some ⟨Z, 0, none⟩), actV7 k t v g] w fun e w' => e = .returned (.bool true) ∧ ZW N w0 w' Z B X D Y ((act7 (c, l) k t v g).1.l.length : Int) (act7 (c, l) k t v g).1 (act7 (c, l) k t v g).2 (act7 (c, l) k t v g).1 (act7 (c, l) k t v g).2 := by
  have hg : c.Good := hF.good
  have hi : Inv c l := hF.inv
  unfold act7
  by_cases h1 : k = 1
  · subst h1
    simp only [if_true]
    by_cases hf : 4 ≤ c.count
    · rw [if_pos hf]
      exact act7_begin_full h hf t v g
    · rw [if_neg hf]
      have := act7_begin h (by omega) hc t v g
      rw [Clk.length_began]
      exact this
  · rw [if_neg h1]
    by_cases h2 : k = 2
    · subst h2
      simp only [if_true]
      cases hv : c.live t
      · simp only [Bool.false_eq_true, if_false]
        exact act7_commit_not h t v g hv
      · simp only [if_true]
        rw [Clk.length_committed]
        exact act7_commit h hn t v g hv
    · rw [if_neg h2]
      by_cases h3 : k = 3
      · subst h3
        simp only [if_true]
        cases hv : c.live t
        · simp only [Bool.false_eq_true, if_false]
          exact act7_abort_not h t v g hv
        · simp only [if_true]
          rw [Clk.length_dropped]
          exact act7_abort h hg hi hl t v g hv
      · rw [if_neg h3]
        by_cases h4 : k = 4
        · subst h4
          simp only [if_true]
          cases hv : c.live t
          · simp only [Bool.false_eq_true, if_false]
            exact act7_write_not h t v g hv
          · simp only [if_true]
            cases hb : Cel.blocked c l t
            · simp only [Bool.false_eq_true, if_false]
              exact act7_write h t v g 0 _ (by rw [hb]; rfl) hg hv (fun _ q => z_write q hg t v g hb hl) (fun _ q => y_write q t v g hb hl)
            · simp only [if_true]
              exact act7_write h t v g 6 _ (by rw [hb]; rfl) hg hv (fun _ q => z_write_no q hg t v g hb) (fun _ q => y_write_no q t v g hb)
        · rw [if_neg h4]
          rcases place_cases (Cel.isSpare c l) l with hp | ⟨i, hp⟩
          · show Calls _ _ _ _ fun e w' => _ ∧ ZW N w0 w' Z B X D Y (c.l.length : Int) c (Cel.swept c l) c (Cel.swept c l)
            rw [swept_none hp]
            exact act7_sweep h t v g false _ (by rw [hp]; rfl) hg hi k h1 h2 h3 h4 (fun _ q => z_sweep_no q hg hp) (fun _ q => y_sweep_no q hi hp)
          · exact act7_sweep h t v g true _ (by rw [hp]; simp) hg hi k h1 h2 h3 h4 (fun _ q => z_sweep q hg i hp) (fun _ q => y_sweep q hi hl i hp)
end
end Go.Proofs.Ytdgojfjaooindaa
