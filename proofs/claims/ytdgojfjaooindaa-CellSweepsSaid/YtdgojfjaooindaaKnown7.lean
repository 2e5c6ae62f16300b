/-
  The contract of ligaturelaw7.known: it answers true, and what lay before is as it was.
-/
import Derived.Test.YtdgojfjaooindaaCelJ
namespace Go.Proofs.Ytdgojfjaooindaa
open Go.RowKit Go.Proofs.Lig

def kc : Nat → Clk
  | 0 => Clk.new
  | k + 1 => (kc k).began.committed ((k : Int) + 1)
def kl : Nat → List (Ver Int)
  | 0 => []
  | k + 1 => Cel.written (kl k) ((k : Int) + 1) (k : Int) ((k : Int) == 2)
theorem kc_good : ∀ k, (kc k).Good
  | 0 => Clk.good_new
  | k + 1 => (Clk.Good.began (kc_good k)).committed _

theorem kfacts (k : Nat) (hk : k < 3) : (kc k).count < 4 ∧ (kc k).l.length ≤ 1000000 ∧ ((kc k).l.length : Int) + 1 = (k : Int) + 1 ∧ Cel.blocked (kc k).began (kl k) ((k : Int) + 1) = false ∧ (kl k).length ≤ 1000000 ∧ (kc k).began.live ((k : Int) + 1) = true ∧ (kc k).began.n ≤ 1000000 :=
  match k, hk with
  | 0, _ => ⟨by decide, by decide, by decide, by decide, by decide, by decide, by decide⟩
  | 1, _ => ⟨by decide, by decide, by decide, by decide, by decide, by decide, by decide⟩
  | 2, _ => ⟨by decide, by decide, by decide, by decide, by decide, by decide, by decide⟩
theorem jfacts (j : Nat) (hj : j < 3) : place (Cel.isSpare (kc 3) ((kl 3).drop j)) ((kl 3).drop j) = ((0 : Nat) : Int) ∧ Cel.swept (kc 3) ((kl 3).drop j) = (kl 3).drop (j + 1) :=
  match j, hj with
  | 0, _ => ⟨by decide, by rfl⟩
  | 1, _ => ⟨by decide, by rfl⟩
  | 2, _ => ⟨by decide, by rfl⟩

set_option maxRecDepth 100000 in
set_option maxHeartbeats 2000000 in
theorem known7 (w : World) : Calls Try.prog 40 #[] w fun e w' => e = .returned (.bool true) ∧ Below w.heap.size w w' := by
  go_enter Try.func40, Try.ntmps40
  go_wp2_with fail
  refine (new_N w).mono ?_
  rintro e w1 ⟨rfl, h1, _⟩
  go_wp2_with fail
  refine (new_C h1).mono ?_
  rintro e w2 ⟨rfl, h2⟩
  have hX : w1.heap.size = w1.heap.size := rfl
  generalize w1.heap.size = X at h2 ⊢
  clear h1 hX
  go_wp2_with fail
  go_loopw [3] (fun i wr => ∃ k : Nat, k ≤ 3 ∧ i = .int .i64 (k : Int) ∧ CC w.heap.size w wr w.heap.size (kc k) X (kl k)) (fun i _ => 3 - (intOf i).toNat)
  case atStart => exact ⟨0, by omega, rfl, h2⟩
  case round =>
    obtain ⟨k, hk, rfl, h⟩ := hrel
    by_cases hlt : k < 3
    · obtain ⟨f1, f2, f3, f4, f5, f6, f7⟩ := kfacts k hlt
      have F1 := hid f1
      have F2 := hid f2
      have F3 := hid f3
      have F4 := hid f4
      have F5 := hid f5
      have F6 := hid f6
      have F7 := hid f7
      clear f1 f2 f3 f4 f5 f6 f7
      go_wp2_with fail
      refine (begin_C h F1.out F2.out ((k : Int) + 1) F3.out).mono ?_
      rintro e w3 ⟨rfl, h3⟩
      clear h
      go_wp2_with fail
      refine (write_C h3 (kc_good k).began ((k : Int) + 1) (k : Int) ((k : Int) == 2) F4.out F5.out).mono ?_
      rintro e w4 ⟨rfl, h4⟩
      clear h3
      go_wp2_with fail
      refine (commit_C h4 ((k : Int) + 1) F6.out F7.out).mono ?_
      rintro e w5 ⟨rfl, h5⟩
      clear h4
      go_wp2_with fail
      go_roundw
      case rel => exact ⟨k + 1, by omega, by go_num, h5⟩
      case measure => simp [intOf]; omega
    · obtain rfl : k = 3 := by omega
      go_wp2_with fail
      refine (len_C h 3 (by decide)).mono ?_
      rintro e w3 ⟨rfl, rfl⟩
      go_wp2_with fail
      go_loopw [8, 9] (fun m i wr => ∃ j : Nat, j ≤ 3 ∧ m = .int .i64 (3 - (j : Int)) ∧ i = .int .i64 (j : Int) ∧ CC w.heap.size w wr w.heap.size (kc 3) X ((kl 3).drop j)) (fun _ i _ => 5 - (intOf i).toNat)
      case atStart => exact ⟨0, by omega, rfl, rfl, h⟩
      case round =>
        obtain ⟨j, hj, rfl, rfl, hh⟩ := hrel
        by_cases hlt : j < 3
        · obtain ⟨f1, f2⟩ := jfacts j hlt
          have F1 := hid f1
          have F2 := hid f2
          clear f1 f2
          go_wp2_with fail
          refine (sweep_C hh (kc_good 3) 0 F1.out).mono ?_
          rintro e w4 ⟨rfl, h4⟩
          rw [F2.out] at h4
          clear hh
          go_wp2_with fail
          go_roundw
          case rel => exact ⟨j + 1, by omega, by go_num, by go_num, h4⟩
          case measure => simp [intOf]; omega
        · obtain rfl : j = 3 := by omega
          go_wp2_with fail
          refine (sweep_no_C hh (kc_good 3) (by decide)).mono ?_
          rintro e w4 ⟨rfl, h4⟩
          clear hh
          go_wp2_with fail
          refine (len_C h4 0 (by decide)).mono ?_
          rintro e w5 ⟨rfl, rfl⟩
          go_wp2_with fail
          refine (spareB_C h4 (kc_good 3) false (by decide)).mono ?_
          rintro e w5 ⟨rfl, h5⟩
          clear h4
          go_wp2_with fail
          go_ret
          exact ⟨rfl, h5.clk.below⟩
end Go.Proofs.Ytdgojfjaooindaa
