/-
  The walk of the law ClockPlays: of every script each answer, and what any transaction sees and clashes with, are the reference's.
-/
import Derived.Test.YtdgojfjaooindaaAct6
import Derived.Test.YtdgojfjaooindaaKnown6
namespace Go.Proofs.Ytdgojfjaooindaa
open Go.RowKit Go.Proofs.Lig

/-- The cells of a slice of acts: what each says. -/
def ActsAt (w : World) (A : Option Addr) (len : Nat) (ks ts : Nat → Int) : Prop :=
  0 < len → ∃ b off, A = some ⟨b, off, none⟩ ∧ b < w.heap.size ∧ ∀ i, i < len → w.cell? ⟨b, off + i * 2, none⟩ = some (.int .i64 (ks i)) ∧ w.cell? ⟨b, off + i * 2 + 1, none⟩ = some (.int .i64 (ts i))

/-- The clock behind i acts. -/
def runC (c : Clk) (ks ts : Nat → Int) : Nat → Clk
  | 0 => c
  | i + 1 => actC (runC c ks ts i) (ks i) (ts i)
theorem good_run {c : Clk} (h : c.Good) (ks ts : Nat → Int) : ∀ i, (runC c ks ts i).Good
  | 0 => h
  | i + 1 => good_act (good_run h ks ts i) _ _
theorem len_run (c : Clk) (ks ts : Nat → Int) : ∀ i, (runC c ks ts i).l.length ≤ c.l.length + i
  | 0 => Nat.le_refl _
  | i + 1 => by have := len_run c ks ts i; have := len_act (runC c ks ts i) (ks i) (ts i); simp only [runC]; omega
theorem n_run (c : Clk) (ks ts : Nat → Int) : ∀ i, (runC c ks ts i).n ≤ c.n + i
  | 0 => Nat.le_refl _
  | i + 1 => by have := n_run c ks ts i; have := n_act (runC c ks ts i) (ks i) (ts i); simp only [runC]; omega
/-- How many of the first i acts ask to begin. -/
def begs (ks : Nat → Int) : Nat → Nat
  | 0 => 0
  | i + 1 => begs ks i + (if ks i = 1 then 1 else 0)
theorem begs_le (ks : Nat → Int) : ∀ i, begs ks i ≤ i
  | 0 => Nat.le_refl _
  | i + 1 => by have := begs_le ks i; simp only [begs]; split <;> omega

theorem begs_next (ks : Nat → Int) (j : Nat) {v : Bool} (h : (ks j == 1) = v) : (begs ks (j + 1) : Int) = (begs ks j : Int) + (if v then 1 else 0) := by
  simp only [begs]
  subst h
  by_cases h1 : ks j = 1 <;> simp [h1]

theorem plays_long (w : World) (A : Option Addr) (len cap : Nat) (h : 10000 < len) (hm : (len : Int) ≤ 9223372036854775807) :
    Calls Try.prog 6 #[.slice A len cap] w fun e w' => e = .returned (.bool true) ∧ Below w.heap.size w w' := by
  go_enter Try.func6, Try.ntmps6
  go_wp2
  go_ret
  exact ⟨rfl, Below.refl _ _⟩

set_option maxHeartbeats 2000000 in
set_option maxRecDepth 100000 in
theorem plays_short (w : World) (A : Option Addr) (len cap : Nat) (ks ts : Nat → Int) (hl : len ≤ 10000) (hA : ActsAt w A len ks ts) :
    Calls Try.prog 6 #[.slice A len cap] w fun e w' => e = .returned (.bool true) ∧ Below w.heap.size w w' := by
  have HA := hid hA
  clear hA
  go_enter Try.func6, Try.ntmps6
  go_wp2_with fail
  refine (new_N w).mono ?_
  rintro e w1 ⟨rfl, q1, _⟩
  have hz1 := q1.below.size
  have H0 : Hid (Both w.heap.size w (w1.alloc (.cells #[.slice none 0 0, .int .i64 0] 36)) w.heap.size w1.heap.size (runC Clk.new ks ts 0)) :=
    ⟨q1.step ((Below.refl _ _).alloc (Nat.le_refl _) _), r_new_N (Nat.le_refl _) q1.below⟩
  clear q1 hz1
  go_wp2_with fail
  obtain ⟨R, hR⟩ : ∃ R, w1.heap.size = R := ⟨_, rfl⟩
  rw [hR] at H0 ⊢
  clear hR
  obtain ⟨w2, hw2⟩ : ∃ w2, w1.alloc (.cells #[.slice none 0 0, .int .i64 0] 36) = w2 := ⟨_, rfl⟩
  rw [hw2] at H0 ⊢
  clear hw2
  go_loopw [5, 6] (fun n i wr => ∃ j : Nat, j ≤ len ∧ j ≤ 60 ∧ n = .int .i64 (begs ks j : Int) ∧ i = .int .i64 (j : Int) ∧ Hid (Both w.heap.size w wr w.heap.size R (runC Clk.new ks ts j))) (fun _ i _ => 60 - (intOf i).toNat)
  case atStart => exact ⟨0, Nat.zero_le _, by omega, rfl, rfl, H0⟩
  case round =>
    obtain ⟨j, hj, hj6, rfl, rfl, H⟩ := hrel
    clear H0
    by_cases hgo : j < len ∧ j < 60
    · obtain ⟨hlt, h60⟩ := hgo
      obtain ⟨b, off, rfl, hbw, hcells⟩ := HA.out (by omega)
      obtain ⟨c0, c1⟩ := hcells j hlt
      have d0 := (H.out.clk.below.cell (p := ⟨b, off + j * 2, none⟩) hbw).trans c0
      have d1 := (H.out.clk.below.cell (p := ⟨b, off + j * 2 + 1, none⟩) hbw).trans c1
      clear hcells c1
      have HBW := hid hbw
      have HC0 := hid c0
      clear hbw c0
      have hbl := begs_le ks j
      have hG := hid (good_run Clk.good_new ks ts j)
      have hL := hid (show (runC Clk.new ks ts j).l.length ≤ j from Nat.le_trans (len_run Clk.new ks ts j) (by show 0 + j ≤ j; omega))
      have hN := hid (show (runC Clk.new ks ts j).n ≤ j from Nat.le_trans (n_run Clk.new ks ts j) (by show 0 + j ≤ j; omega))
      cases hk : (ks j == 1)
      all_goals
        have hbg := hid (begs_next ks j hk)
        go_wp2_with fail
        refine (act_any H.out hG.out (by have := hL.out; omega) (by have := hN.out; omega) (ks j) (ts j)).mono ?_
        rintro e wa ⟨rfl, qa, ta⟩
        have HQ : Hid (Both w.heap.size w wa w.heap.size R (runC Clk.new ks ts (j + 1))) := qa
        have d2 := (HQ.out.clk.below.cell (p := ⟨b, off + j * 2, none⟩) HBW.out).trans HC0.out
        clear qa ta d0 d1 H
        go_wp2_with fail
        refine (count_N HQ.out.clk _ rfl).mono ?_
        rintro e wb ⟨rfl, qb, tb⟩
        have HR := hid (HQ.out.ref.keep tb qb.below (by decide))
        have HQB := hid qb
        clear qb tb d2 HQ
        go_wp2_with fail
        refine (r_count_N HR.out _ rfl).mono ?_
        rintro e wd ⟨rfl, rfl⟩
        have HB2 : Hid (Both w.heap.size w wb w.heap.size R (runC Clk.new ks ts (j + 1))) := ⟨HQB.out, HR.out⟩
        clear HQB HR
        go_wp2_with fail
        go_roundw
        case rel => exact ⟨j + 1, by omega, by omega, by rw [hbg.out]; go_num, by go_num, HB2⟩
        case measure => simp [intOf]; omega
    · have hstop : len ≤ j ∨ 60 ≤ j := by omega
      clear hgo
      by_cases hlt : j < len
      · have h60 : 60 ≤ j := by omega
        clear hstop
        have hG := hid (good_run Clk.good_new ks ts j)
        obtain ⟨m, hm⟩ : ∃ m, begs ks j = m := ⟨_, rfl⟩
        have hm60 := begs_le ks j
        obtain ⟨c, hc⟩ : ∃ c, runC Clk.new ks ts j = c := ⟨_, rfl⟩
        rw [hm] at hm60 ⊢
        rw [hc] at H hG
        clear hm hc
        go_wp2_with fail
        go_loopw [7] (fun a wr => ∃ k : Nat, k ≤ m + 3 ∧ a = .int .i64 ((k : Int) - 1) ∧ Hid (Both w.heap.size w wr w.heap.size R c)) (fun a _ => m + 3 - (intOf a + 1).toNat)
        case atStart => exact ⟨0, Nat.zero_le _, rfl, H⟩
        case round =>
          obtain ⟨k, hk, rfl, HK⟩ := hrel
          clear H
          by_cases hkm : k < m + 3
          · obtain ⟨v1, e1⟩ : ∃ v, c.live ((k : Int) - 1) = v := ⟨_, rfl⟩
            obtain ⟨v2, e2⟩ : ∃ v, c.aborted ((k : Int) - 1) = v := ⟨_, rfl⟩
            obtain ⟨v3, e3⟩ : ∃ v, c.settled ((k : Int) - 1) = v := ⟨_, rfl⟩
            have E1 := hid e1
            have E2 := hid e2
            have E3 := hid e3
            clear e1 e2 e3
            go_wp2_with fail
            refine (live_N HK.out.clk _ _ E1.out).mono ?_
            rintro e wa ⟨rfl, rfl⟩
            go_wp2_with fail
            refine (r_live_N HK.out.ref _ _ E1.out).mono ?_
            rintro e wa ⟨rfl, rfl⟩
            go_wp2_with fail
            refine (aborted_N HK.out.clk _ _ E2.out).mono ?_
            rintro e wa ⟨rfl, rfl⟩
            go_wp2_with fail
            refine (r_aborted_N HK.out.ref _ _ E2.out).mono ?_
            rintro e wa ⟨rfl, rfl⟩
            go_wp2_with fail
            refine (settled_N HK.out.clk _ hG.out _ E3.out).mono ?_
            rintro e wa ⟨rfl, qa, ta⟩
            have HKA := hid qa
            have HKR := hid (HK.out.ref.keep ta qa.below (by decide))
            clear qa ta HK
            go_wp2_with fail
            refine (r_settled_N HKR.out _ _ E3.out).mono ?_
            rintro e wb ⟨rfl, qb, tb⟩
            have HKB : Hid (Both w.heap.size w wb w.heap.size R c) := ⟨HKA.out.keep tb qb.below (by decide), qb⟩
            clear qb tb HKA HKR
            go_wp2_with fail
            go_loopw [8] (fun b wr => ∃ q : Nat, q ≤ m + 3 ∧ b = .int .i64 ((q : Int) - 1) ∧ Hid (Both w.heap.size w wr w.heap.size R c)) (fun b _ => m + 3 - (intOf b + 1).toNat)
            case atStart => exact ⟨0, Nat.zero_le _, rfl, HKB⟩
            case round =>
              obtain ⟨q, hq, rfl, HQ⟩ := hrel
              clear HKB
              by_cases hqm : q < m + 3
              · obtain ⟨v4, e4⟩ : ∃ v, c.sees ((k : Int) - 1) ((q : Int) - 1) = v := ⟨_, rfl⟩
                obtain ⟨v5, e5⟩ : ∃ v, c.clashes ((k : Int) - 1) ((q : Int) - 1) = v := ⟨_, rfl⟩
                have E4 := hid e4
                have E5 := hid e5
                clear e4 e5
                go_wp2_with fail
                refine (sees_N HQ.out.clk _ _ hG.out _ E4.out).mono ?_
                rintro e wa ⟨rfl, qa, ta⟩
                have HQR := hid (HQ.out.ref.keep ta qa.below (by decide))
                have HQA := hid qa
                clear qa ta HQ
                go_wp2_with fail
                refine (r_sees_N HQR.out _ _ _ E4.out).mono ?_
                rintro e wd ⟨rfl, rfl⟩
                go_wp2_with fail
                refine (clashes_N HQA.out _ _ hG.out _ E5.out).mono ?_
                rintro e wd ⟨rfl, qd, td⟩
                have HQR2 := hid (HQR.out.keep td qd.below (by decide))
                have HQD := hid qd
                clear qd td HQA HQR
                go_wp2_with fail
                refine (r_clashes_N HQR2.out _ _ _ E5.out).mono ?_
                rintro e we ⟨rfl, qe, te⟩
                have HQE : Hid (Both w.heap.size w we w.heap.size R c) := ⟨HQD.out.keep te qe.below (by decide), qe⟩
                clear qe te HQD HQR2
                go_wp2_with fail
                go_roundw
                case rel => exact ⟨q + 1, by omega, by go_num, HQE⟩
                case measure => simp [intOf]; omega
              · have hq2 : m + 3 ≤ q := by omega
                go_wp2_with fail
                go_roundw
                case rel => exact ⟨k + 1, by omega, by go_num, HQ⟩
                case measure => simp [intOf]; omega
          · have hk2 : m + 3 ≤ k := by omega
            go_wp2_with fail
            refine (known6 _).mono ?_
            rintro e wx ⟨rfl, hb⟩
            have hz := HK.out.clk.below
            go_wp2_with fail
            go_ret
            exact ⟨rfl, hz.trans (hb.mono hz.size)⟩
      · have hle : len ≤ j := by omega
        clear hstop
        have hG := hid (good_run Clk.good_new ks ts j)
        obtain ⟨m, hm⟩ : ∃ m, begs ks j = m := ⟨_, rfl⟩
        have hm60 := begs_le ks j
        obtain ⟨c, hc⟩ : ∃ c, runC Clk.new ks ts j = c := ⟨_, rfl⟩
        rw [hm] at hm60 ⊢
        rw [hc] at H hG
        clear hm hc
        go_wp2_with fail
        go_loopw [7] (fun a wr => ∃ k : Nat, k ≤ m + 3 ∧ a = .int .i64 ((k : Int) - 1) ∧ Hid (Both w.heap.size w wr w.heap.size R c)) (fun a _ => m + 3 - (intOf a + 1).toNat)
        case atStart => exact ⟨0, Nat.zero_le _, rfl, H⟩
        case round =>
          obtain ⟨k, hk, rfl, HK⟩ := hrel
          clear H
          by_cases hkm : k < m + 3
          · obtain ⟨v1, e1⟩ : ∃ v, c.live ((k : Int) - 1) = v := ⟨_, rfl⟩
            obtain ⟨v2, e2⟩ : ∃ v, c.aborted ((k : Int) - 1) = v := ⟨_, rfl⟩
            obtain ⟨v3, e3⟩ : ∃ v, c.settled ((k : Int) - 1) = v := ⟨_, rfl⟩
            have E1 := hid e1
            have E2 := hid e2
            have E3 := hid e3
            clear e1 e2 e3
            go_wp2_with fail
            refine (live_N HK.out.clk _ _ E1.out).mono ?_
            rintro e wa ⟨rfl, rfl⟩
            go_wp2_with fail
            refine (r_live_N HK.out.ref _ _ E1.out).mono ?_
            rintro e wa ⟨rfl, rfl⟩
            go_wp2_with fail
            refine (aborted_N HK.out.clk _ _ E2.out).mono ?_
            rintro e wa ⟨rfl, rfl⟩
            go_wp2_with fail
            refine (r_aborted_N HK.out.ref _ _ E2.out).mono ?_
            rintro e wa ⟨rfl, rfl⟩
            go_wp2_with fail
            refine (settled_N HK.out.clk _ hG.out _ E3.out).mono ?_
            rintro e wa ⟨rfl, qa, ta⟩
            have HKA := hid qa
            have HKR := hid (HK.out.ref.keep ta qa.below (by decide))
            clear qa ta HK
            go_wp2_with fail
            refine (r_settled_N HKR.out _ _ E3.out).mono ?_
            rintro e wb ⟨rfl, qb, tb⟩
            have HKB : Hid (Both w.heap.size w wb w.heap.size R c) := ⟨HKA.out.keep tb qb.below (by decide), qb⟩
            clear qb tb HKA HKR
            go_wp2_with fail
            go_loopw [8] (fun b wr => ∃ q : Nat, q ≤ m + 3 ∧ b = .int .i64 ((q : Int) - 1) ∧ Hid (Both w.heap.size w wr w.heap.size R c)) (fun b _ => m + 3 - (intOf b + 1).toNat)
            case atStart => exact ⟨0, Nat.zero_le _, rfl, HKB⟩
            case round =>
              obtain ⟨q, hq, rfl, HQ⟩ := hrel
              clear HKB
              by_cases hqm : q < m + 3
              · obtain ⟨v4, e4⟩ : ∃ v, c.sees ((k : Int) - 1) ((q : Int) - 1) = v := ⟨_, rfl⟩
                obtain ⟨v5, e5⟩ : ∃ v, c.clashes ((k : Int) - 1) ((q : Int) - 1) = v := ⟨_, rfl⟩
                have E4 := hid e4
                have E5 := hid e5
                clear e4 e5
                go_wp2_with fail
                refine (sees_N HQ.out.clk _ _ hG.out _ E4.out).mono ?_
                rintro e wa ⟨rfl, qa, ta⟩
                have HQR := hid (HQ.out.ref.keep ta qa.below (by decide))
                have HQA := hid qa
                clear qa ta HQ
                go_wp2_with fail
                refine (r_sees_N HQR.out _ _ _ E4.out).mono ?_
                rintro e wd ⟨rfl, rfl⟩
                go_wp2_with fail
                refine (clashes_N HQA.out _ _ hG.out _ E5.out).mono ?_
                rintro e wd ⟨rfl, qd, td⟩
                have HQR2 := hid (HQR.out.keep td qd.below (by decide))
                have HQD := hid qd
                clear qd td HQA HQR
                go_wp2_with fail
                refine (r_clashes_N HQR2.out _ _ _ E5.out).mono ?_
                rintro e we ⟨rfl, qe, te⟩
                have HQE : Hid (Both w.heap.size w we w.heap.size R c) := ⟨HQD.out.keep te qe.below (by decide), qe⟩
                clear qe te HQD HQR2
                go_wp2_with fail
                go_roundw
                case rel => exact ⟨q + 1, by omega, by go_num, HQE⟩
                case measure => simp [intOf]; omega
              · have hq2 : m + 3 ≤ q := by omega
                go_wp2_with fail
                go_roundw
                case rel => exact ⟨k + 1, by omega, by go_num, HQ⟩
                case measure => simp [intOf]; omega
          · have hk2 : m + 3 ≤ k := by omega
            go_wp2_with fail
            refine (known6 _).mono ?_
            rintro e wx ⟨rfl, hb⟩
            have hz := HK.out.clk.below
            go_wp2_with fail
            go_ret
            exact ⟨rfl, hz.trans (hb.mono hz.size)⟩
end Go.Proofs.Ytdgojfjaooindaa
