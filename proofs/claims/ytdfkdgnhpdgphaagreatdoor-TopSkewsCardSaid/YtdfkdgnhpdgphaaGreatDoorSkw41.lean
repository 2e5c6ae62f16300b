/-
  The row of TopSkews: its closed facts, one by one. (Printed by mk/topg.py.)
-/
import Derived.Test.YtdfkdgnhpdgphaaGreatDoorCards
import Derived.Test.YtdfkdgnhpdgphaaGreatDoorSkw2
namespace Go.Proofs.YtdfkdgnhpdgphaaGreatDoor
open Go.ChangeShapes Go.WideShapes Go.ChangeAt Go.RowKit
set_option maxRecDepth 100000 in
theorem both_true {a b : Bool} (h : a = true) (g : b = true) : (a && b) = true := by rw [h, g]; rfl
theorem sk_named : Tryz.pinned.checked.prog.funcNamed Rows.topSkewsRow.func = some 5 := by kernel_rfl
theorem sk_inst : Tryz.f5.isInstance Tryz.pinned.checked.prog Rows.topSkewsRow.origin Rows.topSkewsRow.targs := of_decide_eq_true (by kernel_rfl)
set_option maxRecDepth 100000 in
theorem sk_wrap : Tryz.f5.isWrapper Tryz.pinned.checked.prog Rows.topSkewsRow.wrapper Rows.topSkewsRow.mainSum := by unfold Func.isWrapper; first | (rw [if_pos (by decide +kernel)]; kernel_rfl) | (rw [if_neg (by decide +kernel)]; exact ⟨rfl, rfl⟩)
theorem sk1 : (Rows.topSkewsRow.wf (OpenSpec.ofChange Rows.topSkewsSpec)) = true := by kernel_rfl
theorem sk2 : (laidOutB Tryz.pinned.checked.prog) = true := by kernel_rfl
set_option maxRecDepth 100000 in
theorem sk3 : (mapsRowed Tryz.pinned.checked.prog) = true := by kernel_rfl
theorem sk4 : (Tryz.f5.params.all (Tryz.pinned.checked.prog.readableRec ·)) = true := by kernel_rfl
theorem sk5 : (namedTie Tryz.pinned.checked.prog Rows.topSkewsRow.named Rows.topSkewsSpec.vars) = true := by kernel_rfl
set_option maxRecDepth 100000 in
theorem sk6 : (Rows.topSkewsRow.stops == []) = true := by kernel_rfl
theorem sk7 : (Tryz.pinned.checked.prog.stops == []) = true := by kernel_rfl
theorem sk8 : (Rows.topSkewsRow.knobs == []) = true := by kernel_rfl
set_option maxRecDepth 100000 in
theorem sk9 : (Tryz.pinned.checked.prog.stopKnobs == []) = true := by kernel_rfl
theorem sk10 : (Rows.topSkewsRow.inPlace == Tryz.pinned.checked.prog.inPlace 5) = true := by kernel_rfl
theorem sk11 : (Rows.topSkewsRow.unfollowed == Tryz.pinned.checked.prog.unfollowed 5) = true := by kernel_rfl
set_option maxRecDepth 100000 in
theorem sk12 : (Rows.topSkewsRow.recurses == Tryz.pinned.checked.prog.recurses 5) = true := by kernel_rfl
theorem sk13 : (Rows.topSkewsRow.named == Tryz.pinned.checked.prog.varsNamed 5) = true := by kernel_rfl
theorem sk14 : (Rows.topSkewsRow.maps == (Tryz.f5.params.toList ++ Rows.topSkewsSpec.plain.varTypes Tryz.pinned.checked.prog).any (Tryz.pinned.checked.prog.mapsRec ·)) = true := by kernel_rfl
set_option maxRecDepth 100000 in
theorem sk15 : (Rows.topSkewsRow.ifaces == (Tryz.f5.params.toList ++ Rows.topSkewsSpec.plain.varTypes Tryz.pinned.checked.prog).any (Tryz.pinned.checked.prog.ifacesRec ·)) = true := by kernel_rfl
theorem sk16 : (Rows.topSkewsRow.mapsOut == Tryz.pinned.checked.prog.mapsAmong Tryz.f5.resultTypes.toList) = true := by kernel_rfl
theorem sk17 : (Rows.topSkewsRow.loops == (Tryz.f5.params.toList ++ Rows.topSkewsSpec.plain.varTypes Tryz.pinned.checked.prog).any (Tryz.pinned.checked.prog.loopsFrom ·)) = true := by kernel_rfl
set_option maxRecDepth 100000 in
theorem sk18 : (Rows.topSkewsRow.wideKeys == (Tryz.f5.params.toList ++ Rows.topSkewsSpec.plain.varTypes Tryz.pinned.checked.prog ++ Tryz.f5.resultTypes.toList).any (Tryz.pinned.checked.prog.wideKeysFrom ·)) = true := by kernel_rfl
theorem sk19 : (Rows.topSkewsSpec.vars.all (Tryz.pinned.checked.prog.varReadable ·)) = true := by kernel_rfl
theorem sk20 : (Tryz.f5.resultTypes.all (fun t => Tryz.pinned.checked.prog.readableRec t && decide (t < Tryz.pinned.checked.prog.types.size))) = true := by kernel_rfl
set_option maxRecDepth 100000 in
theorem sk21 : (Rows.topSkewsRow.ifacesOut == Tryz.f5.resultTypes.toList.any (Tryz.pinned.checked.prog.ifacesRec ·)) = true := by kernel_rfl
theorem sk22 : (Rows.topSkewsRow.loopsOut == Tryz.f5.resultTypes.toList.any (Tryz.pinned.checked.prog.loopsFrom ·)) = true := by kernel_rfl
theorem sk23 : (Rows.topSkewsRow.plainKeys == Tryz.pinned.checked.prog.plainKeys) = true := by kernel_rfl
set_option maxRecDepth 100000 in
theorem sk24 : (Rows.topSkewsRow.shortTexts.isNone) = true := by kernel_rfl
theorem sk25 : (Tryz.pinned.checked.prog.stopsHeard) = true := by kernel_rfl
theorem sk26 : (Tryz.pinned.checked.prog.mayEnter) = true := by kernel_rfl
set_option maxRecDepth 100000 in
theorem sk27 : (Rows.topSkewsRow.lifted == Tryz.pinned.checked.prog.liftsFinal) = true := by kernel_rfl
theorem sk28 : (Tryz.pinned.checked.prog.make == some Rows.topSkewsRow.make) = true := by kernel_rfl
theorem sk29 : (Rows.topSkewsRow.kinds == (if Rows.topSkewsRow.domain.isEmpty then [] else Tryz.f5.params.toList.map fun t => match Tryz.pinned.checked.prog.underlying t with | some (.int k) => some k | _ => none)) = true := by kernel_rfl
set_option maxRecDepth 100000 in
theorem sk30 : (Rows.topSkewsRow.pinned == Rows.topSkewsRow.pinnedBy) = true := by kernel_rfl
theorem sk31 : (Rows.topSkewsRow.veiled == (Tryz.f5.params.toList ++ Rows.topSkewsSpec.plain.varTypes Tryz.pinned.checked.prog ++ Tryz.f5.resultTypes.toList).any (Tryz.pinned.checked.prog.veiledRec ·)) = true := by kernel_rfl
theorem sk32 : (Rows.topSkewsRow.veiledFits Tryz.pinned.checked.prog Tryz.f5.params.toList (Tryz.f5.params.toList ++ Rows.topSkewsSpec.plain.varTypes Tryz.pinned.checked.prog ++ Tryz.f5.resultTypes.toList)) = true := by kernel_rfl
set_option maxRecDepth 100000 in
theorem sk_joined : joinedFacts Tryz.pinned.checked.prog 5 Tryz.f5 Rows.topSkewsSpec Rows.topSkewsRow = true := by
  unfold joinedFacts
  exact both_true (both_true (both_true (both_true (both_true (both_true (both_true (both_true (both_true (both_true (both_true (both_true (both_true (both_true (both_true (both_true (both_true (both_true (both_true (both_true (both_true (both_true (both_true (both_true (both_true (both_true (both_true (both_true (both_true (both_true (both_true sk1 sk2) sk3) sk4) sk5) sk6) sk7) sk8) sk9) sk10) sk11) sk12) sk13) sk14) sk15) sk16) sk17) sk18) sk19) sk20) sk21) sk22) sk23) sk24) sk25) sk26) sk27) sk28) sk29) sk30) sk31) sk32
end Go.Proofs.YtdfkdgnhpdgphaaGreatDoor
