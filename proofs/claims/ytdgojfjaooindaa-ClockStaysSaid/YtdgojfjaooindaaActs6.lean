/-
  An argument that is a slice of acts of ligaturelaw6: what a walk reads of it.
-/
import Derived.Test.YtdgojfjaooindaaPlaysWalk
import Derived.Test.YtdgojfjaooindaaLawS
namespace Go.Proofs.Ytdgojfjaooindaa
open Go.ChangeShapes Go.WideShapes Go.ChangeAt Go.RowKit Go.Deep

def intAt (W : World) (a : Addr) : Int := match W.cell? a with | some (.int _ n) => n | _ => 0

theorem cells_act : Try.prog.cellsOf 39 = 2 := by kernel_rfl
theorem acts_of {H : Type} {enc : TypeId × Value → H} {W : World} {spare : Nat → Bool} {held : Bool} {fuel : Nat} {A : Option Addr} {len cap : Nat} {x : DataW H × List MemPlace}
    (h : DataW.trod enc Try.prog W 0 spare held fuel 32 [.slice A len cap] = some x) : len ≤ maxLen ∧ ∃ ks ts, ActsAt W A len ks ts := by
  rcases open_rows Try.underlying32 Try.underlying39 (by kernel_rfl) cells_act (by decide) h with e | ⟨a, len', cap', e, hl, hsp, hc⟩
  · injection e with e1 e2 e3
    subst e2
    exact ⟨Nat.zero_le _, fun _ => 0, fun _ => 0, fun h => by omega⟩
  · injection e with e1 e2 e3
    subst e1 e2 e3
    refine ⟨hl, fun i => intAt W ⟨a.block, a.off + i * 2, none⟩, fun i => intAt W ⟨a.block, a.off + i * 2 + 1, none⟩, fun hlt => ⟨a.block, a.off, ?_, (hsp hlt).1, fun i hi => ?_⟩⟩
    · have := (hsp hlt).2
      cases a
      simp_all
    · obtain ⟨u, y, n, hu, hy⟩ := hc i hi 0 _ rfl
      obtain ⟨u', y', n', hu', hy'⟩ := hc i hi 1 _ rfl
      obtain ⟨k, hk, _, _⟩ := DataW.trod_int Try.underlying3 hy
      obtain ⟨t, ht, _, _⟩ := DataW.trod_int Try.underlying3 hy'
      simp only [List.cons.injEq, and_true] at hk ht
      subst hk ht
      simp only [Nat.add_zero] at hu
      constructor
      · show W.cell? _ = some (.int .i64 (intAt W _))
        unfold intAt
        rw [show a.off + i * 2 = a.off + i * 2 from rfl]
        rw [show W.cell? ⟨a.block, a.off + i * 2, none⟩ = some (.int .i64 k) from hu]
      · show W.cell? _ = some (.int .i64 (intAt W _))
        unfold intAt
        rw [show W.cell? ⟨a.block, a.off + i * 2 + 1, none⟩ = some (.int .i64 t) from hu']
end Go.Proofs.Ytdgojfjaooindaa
