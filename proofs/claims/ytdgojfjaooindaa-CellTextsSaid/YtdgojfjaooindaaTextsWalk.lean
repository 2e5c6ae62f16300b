/-
  The walk of ligaturelaw7.CellTexts: it answers true.
-/
import Derived.Test.YtdgojfjaooindaaStrJ
namespace Go.Proofs.Ytdgojfjaooindaa.Str
open Go.RowKit Go.Proofs.Lig

def StrsAt (w : World) (A : Option Addr) (len : Nat) (f : Nat → ByteArray) : Prop := ∀ i, i < len → ∃ g o, A = some ⟨g, o, none⟩ ∧ g < w.heap.size ∧ w.cell? ⟨g, o + i, none⟩ = some (.string (f i))
def tl (f : Nat → ByteArray) : Nat → List (Ver ByteArray)
  | 0 => []
  | j + 1 => [⟨1, f j, false⟩]
theorem tl_blocked (f : Nat → ByteArray) (j : Nat) : Cel.blocked Clk.new.began (tl f j) 1 = false := by cases j <;> rfl
theorem tl_written (f : Nat → ByteArray) (j : Nat) : Cel.written (tl f j) 1 (f j) false = tl f (j + 1) := by cases j <;> rfl
theorem tl_len (f : Nat → ByteArray) (j : Nat) : (tl f j).length ≤ 1000000 := by cases j <;> simp [tl]

set_option maxRecDepth 100000 in
set_option maxHeartbeats 2000000 in
theorem texts_in (w : World) (A : Option Addr) (len cap : Nat) (f : Nat → ByteArray) (h1 : 1 ≤ len) (h2 : len ≤ 50) (hA : StrsAt w A len f) : Calls Try.prog 9 #[.slice A len cap] w fun e w' => e = .returned (.bool true) ∧ Below w.heap.size w w' := by
  have g1 := hid (Clk.good_new.began)
  have HA := hid hA
  clear hA
  go_enter Try.func9, Try.ntmps9
  go_wp2_with fail
  refine (new_N w).mono ?_
  rintro e w1 ⟨rfl, h1', _⟩
  go_wp2_with fail
  refine (new_C h1').mono ?_
  rintro e w2 ⟨rfl, h⟩
  have hX : w1.heap.size = w1.heap.size := rfl
  generalize w1.heap.size = X at h ⊢
  clear h1' hX
  go_wp2_with fail
  refine (begin_C h (by decide) (by decide) 1 (by decide)).mono ?_
  rintro e w3 ⟨rfl, h3⟩
  clear h
  go_wp2_with fail
  go_loopw [7] (fun i wr => ∃ j : Nat, j ≤ len ∧ i = .int .i64 (j : Int) ∧ CC w.heap.size w wr w.heap.size Clk.new.began X (tl f j)) (fun i _ => len - (intOf i).toNat)
  case atStart => exact ⟨0, by omega, rfl, h3⟩
  case round =>
    obtain ⟨j, hj, rfl, hh⟩ := hrel
    by_cases hlt : j < len
    · obtain ⟨g, o, rfl, hg, hc⟩ := HA.out j hlt
      have hc1 := (hh.clk.below.cell (p := ⟨g, o + j, none⟩) hg).trans hc
      by_cases hz : 200 < (f j).size
      · go_wp2_with fail
        go_ret
        exact ⟨rfl, hh.clk.below⟩
      · go_wp2_with fail
        refine (write_C hh g1.out 1 (f j) false (tl_blocked f j) (tl_len f j)).mono ?_
        rintro e w4 ⟨rfl, h4⟩
        rw [tl_written] at h4
        clear hh
        go_wp2_with fail
        go_roundw
        case rel => exact ⟨j + 1, by omega, by go_num, h4⟩
        case measure => simp [intOf]; omega
    · obtain rfl : j = len := by omega
      obtain ⟨m, rfl⟩ : ∃ m, j = m + 1 := ⟨j - 1, by omega⟩
      obtain ⟨g, o, rfl, hg, hc⟩ := HA.out m (by omega)
      go_wp2_with fail
      refine (read_C hh g1.out 1 (f m) true (by rfl) (by rfl)).mono ?_
      rintro e w4 ⟨rfl, h4⟩
      clear hh
      have hc1 := (h4.clk.below.cell (p := ⟨g, o + m, none⟩) hg).trans hc
      go_wp2_with fail
      refine (len_C h4 1 (by rfl)).mono ?_
      rintro e w' ⟨rfl, rfl⟩
      go_wp2_with fail
      refine (known7 _).mono ?_
      rintro e w5 ⟨rfl, hb5⟩
      go_wp2_with fail
      go_ret
      exact ⟨rfl, h4.clk.below.trans (hb5.mono h4.size)⟩

set_option maxHeartbeats 1000000 in
theorem texts_walk (w : World) (A : Option Addr) (len cap : Nat) (f : Nat → ByteArray) (hm : (len : Int) ≤ 9223372036854775807) (hA : StrsAt w A len f) : Calls Try.prog 9 #[.slice A len cap] w fun e w' => e = .returned (.bool true) ∧ Below w.heap.size w w' := by
  by_cases h1 : len < 1
  · obtain rfl : len = 0 := by omega
    clear hA
    go_enter Try.func9, Try.ntmps9
    go_wp2_with fail
    go_ret
    exact ⟨rfl, Below.refl _ _⟩
  by_cases h2 : 50 < len
  · clear hA
    go_enter Try.func9, Try.ntmps9
    go_wp2_with fail
    go_ret
    exact ⟨rfl, Below.refl _ _⟩
  exact texts_in w A len cap f (by omega) (by omega) hA
end Go.Proofs.Ytdgojfjaooindaa.Str
