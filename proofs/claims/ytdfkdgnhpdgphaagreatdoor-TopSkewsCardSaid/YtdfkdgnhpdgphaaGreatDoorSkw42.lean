/-
  TopSkews: whatever the two bools, the call returns true: just one of the two transactions commits, and no edge is left without its ends. Condition: the two listed package-level variables of Go's library hold what the program's text lays (tied by the card).
-/
import Derived.Test.YtdfkdgnhpdgphaaGreatDoorSkw40
import Derived.Test.YtdfkdgnhpdgphaaGreatDoorSkw41
namespace Go.Proofs.YtdfkdgnhpdgphaaGreatDoor
open Go.ChangeShapes Go.WideShapes Go.ChangeAt Go.RowKit

set_option maxRecDepth 100000 in
/-- The row's statement. -/
theorem topSkews_holds : Rows.TopSkewsSaid :=
  OpenClaim.holds_of_wide 5 Tryz.f5 rfl rfl rfl rfl rfl rfl rfl ⟨rfl, rfl, rfl, rfl, rfl⟩ rfl rfl rfl rfl rfl sk_named Tryz.func5 sk_joined
    sk_inst sk_wrap (fun os started H enc _ => topSkews_lifted os started H enc)
set_option maxRecDepth 100000 in
theorem sk_wf : Rows.topSkewsRow.wfByText (OpenSpec.ofChange Rows.topSkewsSpec) = true := by kernel_rfl
theorem sk_main : Tryz.pinned.checked.prog.mainIs = some (true, "54946e35a8683187a51f35b70c0626f5eda603fdd9bcb2094a57c0af3ec98da4".toList) := by kernel_rfl
theorem sk_looks : false = Tryz.pinned.checked.prog.looks [] := by kernel_rfl
set_option maxRecDepth 100000 in
theorem sk_goes : false = Rows.topSkewsRow.goesBy Tryz.pinned.checked.prog := by kernel_rfl
theorem sk_bool : Tryz.pinned.checked.prog.wantsStandIn 4 = false := by kernel_rfl
theorem sk_fit (f : FuncId) (fn : Func) (hf : Tryz.pinned.checked.prog.funcNamed Rows.topSkewsRow.func = some f) (hfn : Tryz.pinned.checked.prog.funcs[f]? = some fn) : false = Tryz.pinned.checked.prog.looks [] ∧ ∀ (j : Nat) t, fn.params[j]? = some t → Tryz.pinned.checked.prog.wantsStandIn t = false := by
  obtain rfl : 5 = f := Option.some.inj (sk_named.symm.trans hf)
  obtain rfl : Tryz.f5 = fn := Option.some.inj (Tryz.func5.symm.trans hfn)
  refine ⟨sk_looks, fun j t ht => ?_⟩
  rw [Tryz.params5] at ht
  obtain rfl : t = 4 := by
    have := Array.mem_of_getElem? ht
    simpa using this
  exact sk_bool
set_option maxRecDepth 100000 in
/-- The card. -/
theorem topSkews_card : Rows.TopSkewsCardSaid :=
  Claim7.holds_tied_plain_at .later [] [.data, .pinned] true (true, "54946e35a8683187a51f35b70c0626f5eda603fdd9bcb2094a57c0af3ec98da4") false
    topSkews_holds (fun _ h => by cases h) sk_wf (fun _ h => by cases h) topSkews_row_tie rfl ⟨rfl, rfl⟩ sk_main rfl sk_fit sk_goes
#print axioms topSkews_card
end Go.Proofs.YtdfkdgnhpdgphaaGreatDoor
