/-
  The law ligaturelaw6.ClockPlays: for every input the call returns true, and each argument reads as it read. No condition.
-/
import Derived.Test.YtdgojfjaooindaaPlaysWalk
import Derived.Test.YtdgojfjaooindaaLawS
namespace Go.Proofs.Ytdgojfjaooindaa
open Go.ChangeShapes Go.WideShapes Go.ChangeAt Go.RowKit Go.Deep

def intAt (W : World) (a : Addr) : Int := match W.cell? a with | some (.int _ n) => n | _ => 0

theorem cells_act : Try.prog.cellsOf 39 = 2 := by kernel_rfl
theorem acts_of {H : Type} {enc : TypeId × Value → H} {W : World} {spare : Nat → Bool} {held : Bool} {fuel : Nat} {A : Option Addr} {len cap : Nat} {x : DataW H × List MemPlace}
    (h : DataW.trod enc Try.prog W 0 spare held fuel 32 [.slice A len cap] = some x) : len ≤ maxLen ∧ ∃ ks ts, ActsAt W A len ks ts := by
  rcases open_rows Try.underlying32 Try.underlying39 (by kernel_rfl) cells_act (by decide) h with e | ⟨a, len', cap', e, hl, hsp, hc⟩
  · injection e with e1 e2 e3
    subst e2
    exact ⟨Nat.zero_le _, fun _ => 0, fun _ => 0, fun h => by omega⟩
  · injection e with e1 e2 e3
    subst e1 e2 e3
    refine ⟨hl, fun i => intAt W ⟨a.block, a.off + i * 2, none⟩, fun i => intAt W ⟨a.block, a.off + i * 2 + 1, none⟩, fun hlt => ⟨a.block, a.off, ?_, (hsp hlt).1, fun i hi => ?_⟩⟩
    · have := (hsp hlt).2
      cases a
      simp_all
    · obtain ⟨u, y, n, hu, hy⟩ := hc i hi 0 _ rfl
      obtain ⟨u', y', n', hu', hy'⟩ := hc i hi 1 _ rfl
      obtain ⟨k, hk, _, _⟩ := DataW.trod_int Try.underlying3 hy
      obtain ⟨t, ht, _, _⟩ := DataW.trod_int Try.underlying3 hy'
      simp only [List.cons.injEq, and_true] at hk ht
      subst hk ht
      simp only [Nat.add_zero] at hu
      constructor
      · show W.cell? _ = some (.int .i64 (intAt W _))
        unfold intAt
        rw [show a.off + i * 2 = a.off + i * 2 from rfl]
        rw [show W.cell? ⟨a.block, a.off + i * 2, none⟩ = some (.int .i64 k) from hu]
      · show W.cell? _ = some (.int .i64 (intAt W _))
        unfold intAt
        rw [show W.cell? ⟨a.block, a.off + i * 2 + 1, none⟩ = some (.int .i64 t) from hu']

theorem plays_walk (w : World) (A : Option Addr) (len cap : Nat) (ks ts : Nat → Int) (hm : len ≤ maxLen) (hA : ActsAt w A len ks ts) :
    Calls Try.prog 6 #[.slice A len cap] w fun e w' => e = .returned (.bool true) ∧ Below w.heap.size w w' := by
  by_cases h : 10000 < len
  · exact plays_long w A len cap h (by unfold maxLen at hm; omega)
  · exact plays_short w A len cap ks ts (by omega) hA

set_option maxRecDepth 100000 in
theorem clockPlays_lifted (os : Os) (started : os.Started) (H : Type) (enc : TypeId × Value → H) :
    ReturnsInHanded {} Try.checked os 6 .any (Rows.clockPlaysSpec.pre6 enc Try.prog Try.f6 Rows.clockPlaysRow.domain false) (Rows.clockPlaysSpec.post enc Try.prog Try.f6 false true false false) := by
  refine returnsInHanded_of_change (C := Try.checked) own started (by kernel_rfl) Try.func6
    (ChangeSpec.witness6 (enc := enc) (C := Try.checked) false ⟨#[], #[.slice none 0 0], []⟩ 8 (by kernel_rfl) (by kernel_rfl) (by kernel_rfl) (by kernel_rfl)) ?_
  intro W base args ds gs before hval0 hW hcnd _
  have hval : ∀ (j : Nat) t v, Try.f6.params[j]? = some t → args[j]? = some v → Value.okWide Try.prog W .any base t v := hval0
  have hW' := hW
  obtain ⟨p, q, hA0, hV, rfl, hfz, hnd⟩ := hW
  have hA : DataW.TrodAll enc Try.prog W 0 (fun _ => true) true Try.f6.params.toList args.toList ds p := hA0
  rw [Try.params6] at hA hval
  obtain ⟨v0, vs0, d0, ds0, p0, q0, hargs, rfl, rfl, h0, r0⟩ := trodAll_cons hA
  obtain ⟨rfl, rfl, rfl⟩ := trodAll_nil r0
  obtain rfl : args = #[v0] := by cases args; simp_all
  obtain ⟨rfl, rfl⟩ := trodVars_none hV
  obtain ⟨A0, len, cap, rfl⟩ := okWide_slice Try.underlying32 (hval 0 32 v0 rfl rfl)
  obtain ⟨fuel, hf⟩ := h0
  obtain ⟨hm, ks, ts, hacts⟩ := acts_of hf
  clear hA0 hval0
  refine (plays_walk W A0 len cap ks ts hm hacts).mono fun e W' ⟨he, hb⟩ => ?_
  subst he
  exact ⟨_, rfl, law_post rfl rfl (by kernel_rfl) hW' rfl hb⟩

/-- The statement. -/
theorem clockPlays_holds : Rows.ClockPlaysSaid :=
  OpenClaim.holds_of_wide 6 Try.f6 rfl rfl rfl rfl rfl rfl rfl ⟨rfl, rfl, rfl, rfl, rfl⟩ rfl rfl rfl rfl rfl (by kernel_rfl) Try.func6 (by kernel_rfl)
    (of_decide_eq_true (by kernel_rfl)) (by unfold Func.isWrapper; first | (rw [if_pos (by decide +kernel)]; kernel_rfl) | (rw [if_neg (by decide +kernel)]; exact ⟨rfl, rfl⟩))
    (fun os started H enc _ => clockPlays_lifted os started H enc)
#print axioms clockPlays_holds
end Go.Proofs.Ytdgojfjaooindaa
