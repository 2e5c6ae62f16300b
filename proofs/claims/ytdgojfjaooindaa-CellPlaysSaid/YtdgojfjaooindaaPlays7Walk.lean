/-
  The walk of the law CellPlays: of every script each answer, and all that is read by whoever is live, are the reference's.
-/
import Derived.Test.YtdgojfjaooindaaActs7
import Derived.Test.YtdgojfjaooindaaAlikeB
import Derived.Test.YtdgojfjaooindaaKnown7
namespace Go.Proofs.Ytdgojfjaooindaa
open Go.RowKit Go.Proofs.Lig

theorem plays7_long (w : World) (A : Option Addr) (len cap : Nat) (h : 10000 < len) (hm : (len : Int) ≤ 9223372036854775807) :
    Calls Try.prog 16 #[.slice A len cap] w fun e w' => e = .returned (.bool true) ∧ Below w.heap.size w w' := by
  go_enter Try.func16, Try.ntmps16
  go_wp2
  go_ret
  exact ⟨rfl, Below.refl _ _⟩

set_option maxHeartbeats 2000000 in
set_option maxRecDepth 100000 in
theorem plays7_short (w : World) (A : Option Addr) (len cap : Nat) (ks ts vs : Nat → Int) (gs : Nat → Bool) (hl : len ≤ 10000) (hA : ActsAt7 w A len ks ts vs gs) :
    Calls Try.prog 16 #[.slice A len cap] w fun e w' => e = .returned (.bool true) ∧ Below w.heap.size w w' := by
  have HA := hid hA
  clear hA
  go_enter Try.func16, Try.ntmps16
  go_wp2_with fail
  refine (begin_zw w).mono ?_
  rintro e w1 ⟨Z, B, X, D, Y, rfl, q1⟩
  have H0 : Hid (ZW w.heap.size w w1 Z B X D Y ((runS ks ts vs gs 0).1.l.length : Int) (runS ks ts vs gs 0).1 (runS ks ts vs gs 0).2 (runS ks ts vs gs 0).1 (runS ks ts vs gs 0).2) := q1
  clear q1
  go_wp2_with fail
  go_loopw [4] (fun i wr => ∃ j : Nat, j ≤ len ∧ j ≤ 60 ∧ i = .int .i64 (j : Int) ∧ Hid (ZW w.heap.size w wr Z B X D Y ((runS ks ts vs gs j).1.l.length : Int) (runS ks ts vs gs j).1 (runS ks ts vs gs j).2 (runS ks ts vs gs j).1 (runS ks ts vs gs j).2)) (fun i _ => 60 - (intOf i).toNat)
  case atStart => exact ⟨0, Nat.zero_le _, by omega, rfl, H0⟩
  case round =>
    obtain ⟨j, hj, hj6, rfl, H⟩ := hrel
    clear H0
    by_cases hgo : j < len ∧ j < 60
    · obtain ⟨hlt, h60⟩ := hgo
      obtain ⟨b, off, rfl, hbw, hcells⟩ := HA.out (by omega)
      obtain ⟨c0, c1, c2, c3⟩ := hcells j hlt
      have d0 := (H.out.below.cell (p := ⟨b, off + j * 4, none⟩) hbw).trans c0
      have d1 := (H.out.below.cell (p := ⟨b, off + j * 4 + 1, none⟩) hbw).trans c1
      have d2 := (H.out.below.cell (p := ⟨b, off + j * 4 + 2, none⟩) hbw).trans c2
      have d3 := (H.out.below.cell (p := ⟨b, off + j * 4 + 3, none⟩) hbw).trans c3
      clear hcells c0 c1 c2 c3 hbw
      have HF := hid (fine_run ks ts vs gs j)
      have HF2 := hid (fine_run ks ts vs gs (j + 1))
      have HL := hid (len_runS ks ts vs gs j)
      have HL2 := hid (len_runS ks ts vs gs (j + 1))
      have HC := hid (act7_any H.out HF.out (by have := HL.out; omega) (by have := HL.out; omega) (by have := HL.out; omega) (ks j) (ts j) (vs j) (gs j))
      go_wp2_with fail
      refine HC.out.mono ?_
      rintro e wa ⟨rfl, qa⟩
      have HQ : Hid (ZW w.heap.size w wa Z B X D Y ((runS ks ts vs gs (j + 1)).1.l.length : Int) (runS ks ts vs gs (j + 1)).1 (runS ks ts vs gs (j + 1)).2 (runS ks ts vs gs (j + 1)).1 (runS ks ts vs gs (j + 1)).2) := qa
      clear qa d0 d1 d2 d3 H HC
      go_wp2_with fail
      refine (alike_any HQ.out HF2.out (by have := HL2.out; omega)).mono ?_
      rintro e wb ⟨rfl, qb⟩
      have HQ2 := hid qb
      clear qb HQ
      go_wp2_with fail
      go_roundw
      case rel => exact ⟨j + 1, by omega, by omega, by go_num, HQ2⟩
      case measure => simp [intOf]; omega
    · have hstop : len ≤ j ∨ 60 ≤ j := by omega
      clear hgo
      by_cases hlt : j < len
      · have h60 : 60 ≤ j := by omega
        clear hstop
        go_wp2_with fail
        refine (known7 _).mono ?_
        rintro e wx ⟨rfl, hb⟩
        go_wp2_with fail
        go_ret
        exact ⟨rfl, H.out.below.trans (hb.mono H.out.below.size)⟩
      · have hle : len ≤ j := by omega
        clear hstop
        go_wp2_with fail
        refine (known7 _).mono ?_
        rintro e wx ⟨rfl, hb⟩
        go_wp2_with fail
        go_ret
        exact ⟨rfl, H.out.below.trans (hb.mono H.out.below.size)⟩

theorem plays7_walk (w : World) (A : Option Addr) (len cap : Nat) (ks ts vs : Nat → Int) (gs : Nat → Bool) (hm : len ≤ maxLen) (hA : ActsAt7 w A len ks ts vs gs) :
    Calls Try.prog 16 #[.slice A len cap] w fun e w' => e = .returned (.bool true) ∧ Below w.heap.size w w' := by
  by_cases h : 10000 < len
  · exact plays7_long w A len cap h (by unfold maxLen at hm; omega)
  · exact plays7_short w A len cap ks ts vs gs (by omega) hA
end Go.Proofs.Ytdgojfjaooindaa
