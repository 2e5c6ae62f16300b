/-
  The law ligaturelaw7.CellTexts: for every input the call returns true, and each argument reads as it read. No condition.
-/
import Derived.SliceStrings
import Derived.Test.YtdgojfjaooindaaTextsWalk
import Derived.Test.YtdgojfjaooindaaLawS
import Derived.Test.YtdgojfjaooindaaLaw
namespace Go.Proofs.Ytdgojfjaooindaa
open Go.ChangeShapes Go.WideShapes Go.ChangeAt Go.RowKit Go.Deep

theorem strs_of {H : Type} {enc : TypeId × Value → H} {W : World} {spare : Nat → Bool} {held : Bool} {fuel : Nat} {A : Option Addr} {len cap : Nat} {x : DataW H × List MemPlace}
    (h : DataW.trod enc Try.prog W 0 spare held fuel 47 [.slice A len cap] = some x) : (len : Int) ≤ 9223372036854775807 ∧ ∃ f : Nat → ByteArray, Str.StrsAt W A len f := by
  rcases open_strings Try.underlying47 Try.underlying9 (by kernel_rfl) h with ⟨h0, _⟩ | ⟨a, n, c, ss, h0, _, hl, hm, hlen, _, hc, _⟩
  · simp only [List.cons.injEq, and_true] at h0
    injection h0 with e1 e2 e3
    subst e2
    exact ⟨by omega, fun _ => ByteArray.empty, fun i hi => by omega⟩
  · simp only [List.cons.injEq, and_true] at h0
    injection h0 with e1 e2 e3
    subst e1 e2 e3
    refine ⟨by unfold maxLen at hm; omega, fun i => ss.getD i ByteArray.empty, fun i hi => ?_⟩
    have hcell := hc i (by rw [hlen]; split <;> omega)
    have hsp := spot_none (hc 0 (by rw [hlen]; split <;> omega))
    obtain ⟨g, o, sp⟩ := a
    simp only [Addr.add, if_true] at hsp
    subst hsp
    rw [Addr.add_lit] at hcell
    exact ⟨g, o, rfl, World.block_lt_of_cell? W ⟨g, o + i, none⟩ hcell, hcell⟩

set_option maxRecDepth 100000 in
theorem cellTexts_lifted (os : Os) (started : os.Started) (H : Type) (enc : TypeId × Value → H) :
    ReturnsInHanded {} Try.checked os 9 .any (Rows.cellTextsSpec.pre6 enc Try.prog Try.f9 Rows.cellTextsRow.domain false) (Rows.cellTextsSpec.post enc Try.prog Try.f9 false true false false) := by
  refine returnsInHanded_of_change (C := Try.checked) own started (by kernel_rfl) Try.func9
    (ChangeSpec.witness6 (enc := enc) (C := Try.checked) false ⟨#[], #[.slice none 0 0], []⟩ 8 (by kernel_rfl) (by kernel_rfl) (by kernel_rfl) (by kernel_rfl)) ?_
  intro W base args ds gs before hval0 hW hcnd _
  have hval : ∀ (j : Nat) t v, Try.f9.params[j]? = some t → args[j]? = some v → Value.okWide Try.prog W .any base t v := hval0
  have hW' := hW
  obtain ⟨p, q, hA0, hV, rfl, hfz, hnd⟩ := hW
  have hA : DataW.TrodAll enc Try.prog W 0 (fun _ => true) true Try.f9.params.toList args.toList ds p := hA0
  rw [Try.params9] at hA hval
  obtain ⟨v0, vs0, d0, ds0, p0, q0, hargs, rfl, rfl, h0, r0⟩ := trodAll_cons hA
  obtain ⟨rfl, rfl, rfl⟩ := trodAll_nil r0
  obtain rfl : args = #[v0] := by cases args; simp_all
  obtain ⟨rfl, rfl⟩ := trodVars_none hV
  obtain ⟨A0, len, cap, rfl⟩ := okWide_slice Try.underlying47 (hval 0 47 v0 rfl rfl)
  obtain ⟨fuel, hf⟩ := h0
  obtain ⟨hm, f, hstr⟩ := strs_of hf
  clear hA0 hval0
  refine (Str.texts_walk W A0 len cap f hm hstr).mono fun e W' ⟨he, hb⟩ => ?_
  subst he
  exact ⟨_, rfl, law_post rfl rfl (by kernel_rfl) hW' rfl hb⟩

/-- The statement. -/
theorem cellTexts_holds : Rows.CellTextsSaid :=
  OpenClaim.holds_of_wide 9 Try.f9 rfl rfl rfl rfl rfl rfl rfl ⟨rfl, rfl, rfl, rfl, rfl⟩ rfl rfl rfl rfl rfl (by kernel_rfl) Try.func9 (by kernel_rfl)
    (of_decide_eq_true (by kernel_rfl)) (by unfold Func.isWrapper; first | (rw [if_pos (by decide +kernel)]; kernel_rfl) | (rw [if_neg (by decide +kernel)]; exact ⟨rfl, rfl⟩))
    (fun os started H enc _ => cellTexts_lifted os started H enc)
#print axioms cellTexts_holds
end Go.Proofs.Ytdgojfjaooindaa
