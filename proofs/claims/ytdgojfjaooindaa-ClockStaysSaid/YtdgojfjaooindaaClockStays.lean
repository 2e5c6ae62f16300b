/-
  The law ligaturelaw6.ClockStays: for every input the call returns true, and each argument reads as it read. No condition.
-/
import Derived.Test.YtdgojfjaooindaaStaysWalk
import Derived.Test.YtdgojfjaooindaaActs6
namespace Go.Proofs.Ytdgojfjaooindaa
open Go.ChangeShapes Go.WideShapes Go.ChangeAt Go.RowKit Go.Deep

theorem stays_walk (w : World) (A A2 : Option Addr) (len cap len2 cap2 : Nat) (ks ts ks2 ts2 : Nat → Int) (hm : len ≤ maxLen) (hm2 : len2 ≤ maxLen) (hA : ActsAt w A len ks ts) (hA2 : ActsAt w A2 len2 ks2 ts2) :
    Calls Try.prog 4 #[.slice A len cap, .slice A2 len2 cap2] w fun e w' => e = .returned (.bool true) ∧ Below w.heap.size w w' := by
  by_cases h : 10000 < len ∨ 10000 < len2
  · exact stays_long w A A2 len cap len2 cap2 h (by unfold maxLen at hm; omega) (by unfold maxLen at hm2; omega)
  · exact stays_short w A A2 len cap len2 cap2 ks ts ks2 ts2 (by omega) (by omega) hA hA2

set_option maxRecDepth 100000 in
theorem clockStays_lifted (os : Os) (started : os.Started) (H : Type) (enc : TypeId × Value → H) :
    ReturnsInHanded {} Try.checked os 4 .any (Rows.clockStaysSpec.pre6 enc Try.prog Try.f4 Rows.clockStaysRow.domain false) (Rows.clockStaysSpec.post enc Try.prog Try.f4 false true false false) := by
  refine returnsInHanded_of_change (C := Try.checked) own started (by kernel_rfl) Try.func4
    (ChangeSpec.witness6 (enc := enc) (C := Try.checked) false ⟨#[], #[.slice none 0 0, .slice none 0 0], []⟩ 8 (by kernel_rfl) (by kernel_rfl) (by kernel_rfl) (by kernel_rfl)) ?_
  intro W base args ds gs before hval0 hW hcnd _
  have hval : ∀ (j : Nat) t v, Try.f4.params[j]? = some t → args[j]? = some v → Value.okWide Try.prog W .any base t v := hval0
  have hW' := hW
  obtain ⟨p, q, hA0, hV, rfl, hfz, hnd⟩ := hW
  have hA : DataW.TrodAll enc Try.prog W 0 (fun _ => true) true Try.f4.params.toList args.toList ds p := hA0
  rw [Try.params4] at hA hval
  obtain ⟨v0, vs0, d0, ds0, p0, q0, hargs, rfl, rfl, h0, r0⟩ := trodAll_cons hA
  obtain ⟨v1, vs1, d1, ds1, p1, q1, rfl, rfl, rfl, h1, r1⟩ := trodAll_cons r0
  obtain ⟨rfl, rfl, rfl⟩ := trodAll_nil r1
  obtain rfl : args = #[v0, v1] := by cases args; simp_all
  obtain ⟨rfl, rfl⟩ := trodVars_none hV
  obtain ⟨A0, len, cap, rfl⟩ := okWide_slice Try.underlying32 (hval 0 32 v0 rfl rfl)
  obtain ⟨fuel, hf⟩ := h0
  obtain ⟨A1, len1, cap1, rfl⟩ := okWide_slice Try.underlying32 (hval 1 32 v1 rfl rfl)
  obtain ⟨fuel1, hf1⟩ := h1
  obtain ⟨hm, ks, ts, hacts⟩ := acts_of hf
  obtain ⟨hm1, ks1, ts1, hacts1⟩ := acts_of hf1
  clear hA0 hval0
  refine (stays_walk W A0 A1 len cap len1 cap1 ks ts ks1 ts1 hm hm1 hacts hacts1).mono fun e W' ⟨he, hb⟩ => ?_
  subst he
  exact ⟨_, rfl, law_post rfl rfl (by kernel_rfl) hW' rfl hb⟩

/-- The statement. -/
theorem clockStays_holds : Rows.ClockStaysSaid :=
  OpenClaim.holds_of_wide 4 Try.f4 rfl rfl rfl rfl rfl rfl rfl ⟨rfl, rfl, rfl, rfl, rfl⟩ rfl rfl rfl rfl rfl (by kernel_rfl) Try.func4 (by kernel_rfl)
    (of_decide_eq_true (by kernel_rfl)) (by unfold Func.isWrapper; first | (rw [if_pos (by decide +kernel)]; kernel_rfl) | (rw [if_neg (by decide +kernel)]; exact ⟨rfl, rfl⟩))
    (fun os started H enc _ => clockStays_lifted os started H enc)
#print axioms clockStays_holds
end Go.Proofs.Ytdgojfjaooindaa
