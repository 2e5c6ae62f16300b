/-
  The acts of a script of chapter 7: what a slice of them says; what the script makes of a clock and a cell.
-/
import Derived.Test.YtdgojfjaooindaaLawS
import Derived.Test.YtdgojfjaooindaaRclI
namespace Go.Proofs.Ytdgojfjaooindaa
open Go.ChangeShapes Go.WideShapes Go.ChangeAt Go.RowKit Go.Deep Go.Proofs.Lig

/-- The cells of a slice of acts: what each says. -/
def ActsAt7 (w : World) (A : Option Addr) (len : Nat) (ks ts vs : Nat → Int) (gs : Nat → Bool) : Prop :=
  0 < len → ∃ b off, A = some ⟨b, off, none⟩ ∧ b < w.heap.size ∧ ∀ i, i < len → w.cell? ⟨b, off + i * 4, none⟩ = some (.int .i64 (ks i)) ∧ w.cell? ⟨b, off + i * 4 + 1, none⟩ = some (.int .i64 (ts i)) ∧ w.cell? ⟨b, off + i * 4 + 2, none⟩ = some (.int .i64 (vs i)) ∧ w.cell? ⟨b, off + i * 4 + 3, none⟩ = some (.bool (gs i))

/-- Both behind i acts. -/
def runS (ks ts vs : Nat → Int) (gs : Nat → Bool) : Nat → St
  | 0 => (Clk.new, [])
  | i + 1 => act7 (runS ks ts vs gs i) (ks i) (ts i) (vs i) (gs i)
theorem fine_run (ks ts vs : Nat → Int) (gs : Nat → Bool) : ∀ i, Fine (runS ks ts vs gs i)
  | 0 => ⟨Clk.good_new, inv_nil _⟩
  | i + 1 => (fine_run ks ts vs gs i).act _ _ _ _
theorem len_runS (ks ts vs : Nat → Int) (gs : Nat → Bool) : ∀ i, (runS ks ts vs gs i).1.l.length ≤ i ∧ (runS ks ts vs gs i).1.n ≤ i ∧ (runS ks ts vs gs i).2.length ≤ i
  | 0 => ⟨Nat.le_refl _, Nat.le_refl _, Nat.le_refl _⟩
  | i + 1 => by
    have h1 := len_runS ks ts vs gs i
    have h2 := act7_len (runS ks ts vs gs i) (ks i) (ts i) (vs i) (gs i)
    show (act7 (runS ks ts vs gs i) (ks i) (ts i) (vs i) (gs i)).1.l.length ≤ _ ∧ (act7 (runS ks ts vs gs i) (ks i) (ts i) (vs i) (gs i)).1.n ≤ _ ∧ (act7 (runS ks ts vs gs i) (ks i) (ts i) (vs i) (gs i)).2.length ≤ _
    omega

def int7At (W : World) (a : Addr) : Int := match W.cell? a with | some (.int _ n) => n | _ => 0
def bool7At (W : World) (a : Addr) : Bool := match W.cell? a with | some (.bool b) => b | _ => false

theorem cells_act7 : Try.prog.cellsOf 65 = 4 := by kernel_rfl
theorem acts7_of {H : Type} {enc : TypeId × Value → H} {W : World} {spare : Nat → Bool} {held : Bool} {fuel : Nat} {A : Option Addr} {len cap : Nat} {x : DataW H × List MemPlace}
    (h : DataW.trod enc Try.prog W 0 spare held fuel 60 [.slice A len cap] = some x) : len ≤ maxLen ∧ ∃ ks ts vs gs, ActsAt7 W A len ks ts vs gs := by
  rcases open_rows Try.underlying60 Try.underlying65 (by kernel_rfl) cells_act7 (by decide) h with e | ⟨a, len', cap', e, hl, hsp, hc⟩
  · injection e with e1 e2 e3
    subst e2
    exact ⟨Nat.zero_le _, fun _ => 0, fun _ => 0, fun _ => 0, fun _ => false, fun h => by omega⟩
  · injection e with e1 e2 e3
    subst e1 e2 e3
    refine ⟨hl, fun i => int7At W ⟨a.block, a.off + i * 4, none⟩, fun i => int7At W ⟨a.block, a.off + i * 4 + 1, none⟩, fun i => int7At W ⟨a.block, a.off + i * 4 + 2, none⟩, fun i => bool7At W ⟨a.block, a.off + i * 4 + 3, none⟩, fun hlt => ⟨a.block, a.off, ?_, (hsp hlt).1, fun i hi => ?_⟩⟩
    · have := (hsp hlt).2
      cases a
      simp_all
    · obtain ⟨u, y, n, hu, hy⟩ := hc i hi 0 _ rfl
      obtain ⟨u1, y1, n1, hu1, hy1⟩ := hc i hi 1 _ rfl
      obtain ⟨u2, y2, n2, hu2, hy2⟩ := hc i hi 2 _ rfl
      obtain ⟨u3, y3, n3, hu3, hy3⟩ := hc i hi 3 _ rfl
      obtain ⟨k0, hk0, _, _⟩ := DataW.trod_int Try.underlying3 hy
      obtain ⟨k1, hk1, _, _⟩ := DataW.trod_int Try.underlying3 hy1
      obtain ⟨k2, hk2, _, _⟩ := DataW.trod_int Try.underlying3 hy2
      obtain ⟨k3, hk3, _⟩ := DataW.trod_bool Try.underlying4 hy3
      simp only [List.cons.injEq, and_true] at hk0 hk1 hk2 hk3
      subst hk0 hk1 hk2 hk3
      simp only [Nat.add_zero] at hu
      have f0 : W.cell? ⟨a.block, a.off + i * 4, none⟩ = some (.int .i64 k0) := hu
      have f1 : W.cell? ⟨a.block, a.off + i * 4 + 1, none⟩ = some (.int .i64 k1) := hu1
      have f2 : W.cell? ⟨a.block, a.off + i * 4 + 2, none⟩ = some (.int .i64 k2) := hu2
      have f3 : W.cell? ⟨a.block, a.off + i * 4 + 3, none⟩ = some (.bool k3) := hu3
      refine ⟨?_, ?_, ?_, ?_⟩
      · rw [f0]; show _ = some (Value.int .i64 (int7At W _)); unfold int7At; rw [f0]
      · rw [f1]; show _ = some (Value.int .i64 (int7At W _)); unfold int7At; rw [f1]
      · rw [f2]; show _ = some (Value.int .i64 (int7At W _)); unfold int7At; rw [f2]
      · rw [f3]; show _ = some (Value.bool (bool7At W _)); unfold bool7At; rw [f3]
end Go.Proofs.Ytdgojfjaooindaa
