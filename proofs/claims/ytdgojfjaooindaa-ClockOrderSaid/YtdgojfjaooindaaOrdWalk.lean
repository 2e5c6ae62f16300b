/-
  The walk of the law ClockOrder: for all n and k it answers true, and what lay before is as it was.
-/
import Derived.Test.YtdgojfjaooindaaKnown6
import Derived.Test.YtdgojfjaooindaaOrdPlain
namespace Go.Proofs.Ytdgojfjaooindaa
open Go.RowKit Go.Proofs.Lig

theorem info_int : (Try.prog.info? 3).map (fun i => (i.zero, i.size, i.bytes)) = some (some (.int .i64 0), 1, 8) := by kernel_rfl

/-- 'l = append(l, t)' on a row of ints that the call owns, as one step of a walk. -/
theorem ordStep {k i : Nat} (hk : k < 21) (hi : i < 20) : (i = k → (Ord.clk k i).count < 4 ∧ (Ord.clk k i).l.length = k) ∧ (Ord.mid k i (Ord.clk k i)).count < 4 ∧ (Ord.mid k i (Ord.clk k i)).l.length + 1 = Ord.tn k i ∧
    (Ord.mid k i (Ord.clk k i)).began.live (Ord.tn k i) = true ∧ (Ord.mid k i (Ord.clk k i)).n ≤ 100 := by
  have h := Ord.step_all k hk i hi
  simp only [Ord.stepOk, Bool.and_eq_true, Bool.or_eq_true, decide_eq_true_eq] at h
  obtain ⟨⟨⟨⟨h1, h2⟩, h3⟩, h4⟩, h5⟩ := h
  exact ⟨fun e => h1.resolve_left (fun hne => hne e), h2, h3, h4, h5⟩

/-- What the loop's head holds behind i rounds. -/
def OrdRel (w : World) (B K i : Nat) (sv : Value) (wr : World) : Prop :=
  ClkN w.heap.size w wr B (Ord.clk K i) ∧ wr.ownsRow w.heap.size 3 1 sv i ((List.range i).map fun j => Value.int .i64 (Ord.tn K j : Int))

theorem endFacts {n k i : Nat} (hn : n < 21) (hk : k < n + 1) (hi : i < n) : (Ord.mid k n (Ord.clk k n)).sees ((k : Int) + 1) (Ord.tn k i) = decide (i < k) ∧ (Ord.mid k n (Ord.clk k n)).settled (Ord.tn k i) = decide (i < k) ∧ (Ord.mid k n (Ord.clk k n)).clashes ((k : Int) + 1) (Ord.tn k i) = decide (k ≤ i) := by
  have h := Ord.end_all n hn k hk i hi
  simp only [Ord.endOk, Bool.and_eq_true, decide_eq_true_eq] at h
  exact ⟨h.1.1, h.1.2, h.2⟩
theorem lastFacts {n k : Nat} (hn : n < 21) (hk : k < n + 1) : (n = k → (Ord.clk k n).count < 4 ∧ (Ord.clk k n).l.length = k) ∧ (Ord.mid k n (Ord.clk k n)).live ((k : Int) + 1) = true := by
  have h := Ord.last_all n hn k hk
  simp only [Ord.lastOk, Bool.and_eq_true, Bool.or_eq_true, decide_eq_true_eq] at h
  exact ⟨fun e => h.1.resolve_left (fun hne => hne e), h.2⟩

/-- What the second loop keeps. -/
def OrdEnd (w : World) (B K N : Nat) (sv : Value) (wr : World) : Prop :=
  ClkN w.heap.size w wr B (Ord.mid K N (Ord.clk K N)) ∧ wr.ownsRow w.heap.size 3 1 sv N ((List.range N).map fun j => Value.int .i64 (Ord.tn K j : Int))
theorem OrdEnd.cell {w wr : World} {B K N g cap m : Nat} (h : OrdEnd w B K N (.slice (some ⟨g, 0, none⟩) N cap) wr) (hm : m < N) : wr.cell? ⟨g, m, none⟩ = some (.int .i64 (Ord.tn K m : Int)) := by
  rw [h.2.cellAt m (by omega)]
  simp [hm]
theorem OrdEnd.step {w wr w' : World} {B K N : Nat} {sv : Value} (h : OrdEnd w B K N sv wr) (hq : ClkN w.heap.size w w' B (Ord.mid K N (Ord.clk K N))) (ht : TFr clkT wr w') : OrdEnd w B K N sv w' :=
  ⟨hq, own_tfr h.2 ht (by decide)⟩

theorem dec_ge (K m : Nat) : decide (K ≤ m) = !decide (m < K) := by
  by_cases h : m < K
  · simp [h]
  · simp [h]; omega

theorem ordRel_next {w w' : World} {B K j : Nat} {sv : Value} (hc : ClkN w.heap.size w w' B ((Ord.mid K j (Ord.clk K j)).began.committed (Ord.tn K j)))
    (ho : w'.ownsRow w.heap.size 3 1 sv (j + 1) (((List.range j).map fun j => Value.int .i64 (Ord.tn K j : Int)) ++ [.int .i64 (Ord.tn K j : Int)])) : Hid (OrdRel w B K (j + 1) sv w') :=
  ⟨hc, by rw [List.range_succ, List.map_append]; exact ho⟩

theorem ordRel_push {w w4 w5 : World} {B K j gg cap2 : Nat} {sv : Value} {o : Obj} (hc : ClkN w.heap.size w w4 B ((Ord.mid K j (Ord.clk K j)).began.committed (Ord.tn K j)))
    (ho : w4.ownsRow w.heap.size 3 1 sv j ((List.range j).map fun j => Value.int .i64 (Ord.tn K j : Int)))
    (ho5 : w5.ownsRow w.heap.size 3 1 (.slice (some ⟨gg, 0, none⟩) (j + 1) cap2) (j + 1) (((List.range j).map fun j => Value.int .i64 (Ord.tn K j : Int)) ++ [.int .i64 (Ord.tn K j : Int)]))
    (hg : (w4.alloc o).grownBy w5 sv.ownBlock) : OrdRel w B K (j + 1) (.slice (some ⟨gg, 0, none⟩) (j + 1) cap2) w5 := by
  have hb : Below w4.heap.size w4 (w4.alloc o) := (Below.refl _ _).alloc (Nat.le_refl _) o
  have h1 : TFr [3] w4 w5 := (TFr.of_below hb).trans (TFr.of_grown (ho.alloc o) hg)
  have hN : w.heap.size ≤ w4.heap.size := hc.below.size
  have h2 : Below w.heap.size w4 w5 := (hb.mono hN).grown hg (by simp; omega) (fun k hk => (ho.lt k hk).1)
  exact (ordRel_next (hc.tfr h1 h2 (by decide)) ho5)

set_option maxHeartbeats 1000000 in
set_option maxRecDepth 100000 in
theorem order_walk (n k : Int) (w : World) : Calls Try.prog 3 #[.int .i64 n, .int .i64 k] w fun e w' => e = .returned (.bool true) ∧ Below w.heap.size w w' := by
  by_cases hr : n < 1 ∨ 20 < n ∨ k < 0 ∨ n < k
  · by_cases h1 : n < 1
    · go_enter Try.func3, Try.ntmps3
      go_wp2
      go_ret
      exact ⟨rfl, Below.refl _ _⟩
    · by_cases h2 : 20 < n
      · go_enter Try.func3, Try.ntmps3
        go_wp2
        go_ret
        exact ⟨rfl, Below.refl _ _⟩
      · by_cases h3 : k < 0
        · go_enter Try.func3, Try.ntmps3
          go_wp2
          go_ret
          exact ⟨rfl, Below.refl _ _⟩
        · have h4 : n < k := by omega
          go_enter Try.func3, Try.ntmps3
          go_wp2
          go_ret
          exact ⟨rfl, Below.refl _ _⟩
  · obtain ⟨hn1, hn2, hk1, hk2⟩ : 1 ≤ n ∧ n ≤ 20 ∧ 0 ≤ k ∧ k ≤ n := by omega
    clear hr
    obtain ⟨N, rfl⟩ := Int.eq_ofNat_of_zero_le (show 0 ≤ n by omega)
    obtain ⟨K, rfl⟩ := Int.eq_ofNat_of_zero_le hk1
    have gN1 : 1 ≤ N := by omega
    have gN2 : N ≤ 20 := by omega
    have gK : K ≤ N := by omega
    go_enter Try.func3, Try.ntmps3
    go_wp2_with fail
    refine (new_N w).mono ?_
    rintro e w1 ⟨rfl, q1, _⟩
    go_wp2_with fail
    have H0 : Hid (OrdRel w w.heap.size K 0 (.slice none 0 0) w1) := ⟨q1, World.ownsRow_nil _ _ _ _⟩
    clear q1
    go_loopw [6, 7, 8] (fun r l i wr => ∃ j : Nat, j ≤ N ∧ i = .int .i64 (j : Int) ∧ r = .int .i64 (Ord.rr K j : Int) ∧ Hid (OrdRel w w.heap.size K j l wr)) (fun _ _ i _ => N - (intOf i).toNat)
    case atStart => exact ⟨0, Nat.zero_le _, rfl, rfl, H0⟩
    case round =>
      obtain ⟨j, hj, rfl, rfl, H⟩ := hrel
      clear H0
      by_cases hlt : j < N
      · have HS := hid (ordStep (k := K) (i := j) (by omega) (by omega))
        have hown := H.out.2
        have HO := hid hown
        have q2 := H.out.1
        have HQ := hid q2
        clear hown q2 H
        obtain ⟨i0, hi, hz0, hz1, hz2⟩ := info_parts info_int
        have HI := hid hi
        have HZ0 := hid hz0
        have HZ1 := hid hz1
        have HZ2 := hid hz2
        clear hi hz0 hz1 hz2
        by_cases hjk : j = K
        · subst hjk
          have hr1 := hid (show (Ord.rr j (j + 1) : Int) = (j : Int) + 1 from by unfold Ord.rr; rw [if_pos (by omega)]; omega)
          go_wp2_with fail
          refine (begin_N HQ.out (HS.out.1 (by simp)).1 (by have := (HS.out.1 (by simp)).2; omega) ((j : Int) + 1) (by have := (HS.out.1 (by simp)).2; omega)).mono ?_
          rintro e w2 ⟨rfl, q3, t3⟩
          have HQ2 : Hid (ClkN w.heap.size w w2 w.heap.size (Ord.mid j j (Ord.clk j j))) := by show ClkN _ _ _ _ _; unfold Ord.mid; rw [if_pos rfl]; exact q3
          have HO2 := hid (own_tfr HO.out t3 (by decide))
          clear q3 t3
          clear HO HQ
          go_wp2_with fail
          refine (begin_N HQ2.out HS.out.2.1 (by have h1 := Ord.len_mid j j (Ord.clk j j); have h2 := Ord.len j j; omega) (Ord.tn j j : Int) (by have := HS.out.2.2.1; omega)).mono ?_
          rintro e w3 ⟨rfl, q3, t3⟩
          have HQ3 := hid q3
          have HO3 := hid (own_tfr HO2.out t3 (by decide))
          clear q3 t3 HO2 HQ2
          go_wp2_with fail
          refine (commit_N HQ3.out _ HS.out.2.2.2.1 (by have := HS.out.2.2.2.2; exact Nat.le_trans this (by decide))).mono ?_
          rintro e w4 ⟨rfl, q3, t3⟩
          have HQ4 := hid q3
          have HO4 := hid (own_tfr HO3.out t3 (by decide))
          clear q3 t3 HO3 HQ3
          go_wp2_with (at_builtin; refine wpList_append_lies _ rfl (.tmp 56) (.tmp 58) 24 rfl w.heap.size 3 i0 (.int .i64 0) 1 8 Try.underlying24 HI.out HZ0.out HZ1.out HZ2.out rfl (by decide) _ j _ rfl (HO4.out.alloc _) ⟨w4.heap.size, 0, none⟩ 1 1 [.int .i64 (Ord.tn j j : Int)] rfl rfl (World.news_of_block (cs := #[.int .i64 (Ord.tn j j : Int)]) (heap_alloc_new w4 _)) (by simp [Value.oneCell']) (by decide) (by unfold maxLen; omega) (by omega) (by have := HQ4.out.below.size; simp; omega) (w4.heap.size + 1) (by simp) ?_; intro gg cap2 w5 hown5 hgrow hat hlt5)
          have HR : Hid (OrdRel w w.heap.size j (j + 1) (.slice (some ⟨gg, 0, none⟩) (j + 1) cap2) w5) := ordRel_push HQ4.out HO4.out hown5 hgrow
          clear HQ4 HO4 hown5 hgrow hat hlt5
          go_wp2
          go_roundw
          case rel => exact ⟨j + 1, by omega, by go_num, by rw [hr1.out], HR⟩
          case measure => simp [intOf]; omega
        · have hb : (j == K) = false := by simp [hjk]
          have hr1 := hid (show (Ord.rr K (j + 1) : Int) = (Ord.rr K j : Int) from by unfold Ord.rr; by_cases h : K < j; · rw [if_pos h, if_pos (by omega)]
                                                                                      · rw [if_neg h, if_neg (by omega)])
          have HQ2 : Hid (ClkN w.heap.size w wr w.heap.size (Ord.mid K j (Ord.clk K j))) := by show ClkN _ _ _ _ _; unfold Ord.mid; rw [if_neg hjk]; exact HQ.out
          clear hjk HQ
          go_wp2_with fail
          refine (begin_N HQ2.out HS.out.2.1 (by have h1 := Ord.len_mid K j (Ord.clk K j); have h2 := Ord.len K j; omega) (Ord.tn K j : Int) (by have := HS.out.2.2.1; omega)).mono ?_
          rintro e w3 ⟨rfl, q3, t3⟩
          have HQ3 := hid q3
          have HO3 := hid (own_tfr HO.out t3 (by decide))
          clear q3 t3 HO HQ2
          go_wp2_with fail
          refine (commit_N HQ3.out _ HS.out.2.2.2.1 (by have := HS.out.2.2.2.2; exact Nat.le_trans this (by decide))).mono ?_
          rintro e w4 ⟨rfl, q3, t3⟩
          have HQ4 := hid q3
          have HO4 := hid (own_tfr HO3.out t3 (by decide))
          clear q3 t3 HO3 HQ3
          go_wp2_with (at_builtin; refine wpList_append_lies _ rfl (.tmp 56) (.tmp 58) 24 rfl w.heap.size 3 i0 (.int .i64 0) 1 8 Try.underlying24 HI.out HZ0.out HZ1.out HZ2.out rfl (by decide) _ j _ rfl (HO4.out.alloc _) ⟨w4.heap.size, 0, none⟩ 1 1 [.int .i64 (Ord.tn K j : Int)] rfl rfl (World.news_of_block (cs := #[.int .i64 (Ord.tn K j : Int)]) (heap_alloc_new w4 _)) (by simp [Value.oneCell']) (by decide) (by unfold maxLen; omega) (by omega) (by have := HQ4.out.below.size; simp; omega) (w4.heap.size + 1) (by simp) ?_; intro gg cap2 w5 hown5 hgrow hat hlt5)
          have HR : Hid (OrdRel w w.heap.size K (j + 1) (.slice (some ⟨gg, 0, none⟩) (j + 1) cap2) w5) := ordRel_push HQ4.out HO4.out hown5 hgrow
          clear HQ4 HO4 hown5 hgrow hat hlt5
          go_wp2
          go_roundw
          case rel => exact ⟨j + 1, by omega, by go_num, by rw [hr1.out], HR⟩
          case measure => simp [intOf]; omega
      · obtain rfl : j = N := by omega
        have HL := hid (Ord.last_all j (by omega) K (by omega))
        obtain ⟨g, cap, rfl, _, _⟩ := H.out.2.form (by omega)
        have HO := hid H.out.2
        have HQ := hid H.out.1
        have HG : Hid ((Ord.mid K j (Ord.clk K j)).Good) := Ord.good_mid (Ord.good K j)
        have HE := hid (fun i hi => endFacts (n := j) (k := K) (i := i) (by omega) (by omega) hi)
        clear H
        by_cases hjk : K = j
        · have hb : (K == j) = true := by simp [hjk]
          have HJ := hid hjk
          clear hjk
          go_wp2_with fail
          refine (begin_N HQ.out ((lastFacts (by omega) (by omega)).1 HJ.out.symm).1 (by have h2 := Ord.len K j; omega) ((K : Int) + 1) (by have := ((lastFacts (k := K) (n := j) (by omega) (by omega)).1 HJ.out.symm).2; omega)).mono ?_
          rintro e w2 ⟨rfl, q3, t3⟩
          have HQ2 : Hid (ClkN w.heap.size w w2 w.heap.size (Ord.mid K j (Ord.clk K j))) := by show ClkN _ _ _ _ _; unfold Ord.mid; rw [if_pos HJ.out.symm]; exact q3
          have HO2 := hid (own_tfr HO.out t3 (by decide))
          clear q3 t3
          have H0 : Hid (OrdEnd w w.heap.size K j (.slice (some ⟨g, 0, none⟩) j cap) w2) := ⟨HQ2.out, HO2.out⟩
          clear HQ2 HO2 HO HQ
          go_wp2_with fail
          go_loopw [11] (fun i wx => ∃ m : Nat, m ≤ j ∧ i = .int .i64 (m : Int) ∧ Hid (OrdEnd w w.heap.size K j (.slice (some ⟨g, 0, none⟩) j cap) wx)) (fun i _ => j - (intOf i).toNat)
          case atStart => exact ⟨0, Nat.zero_le _, rfl, H0⟩
          case round =>
            obtain ⟨m, hm, rfl, HX⟩ := hrel
            clear H0
            by_cases hlm : m < j
            · obtain ⟨f1, f2, f3⟩ := HE.out m hlm
              have F1 := hid f1
              have F2 := hid f2
              have F3 := hid f3
              clear f1 f2 f3
              have hc := HX.out.cell hlm
              cases hk : decide (m < K)
              all_goals
                have h5 := dec_ge K m
                rw [hk] at F1 F2 h5
                simp only [Bool.not_true, Bool.not_false] at h5
                have F5 := hid h5
                go_wp2_with fail
                refine (sees_N HX.out.1 _ _ HG.out _ F1.out).mono ?_
                rintro e wa ⟨rfl, qa, ta⟩
                have HA := hid (HX.out.step qa ta)
                clear HX qa ta hc
                have hc := HA.out.cell hlm
                go_wp2_with fail
                refine (settled_N HA.out.1 _ HG.out _ F2.out).mono ?_
                rintro e wb ⟨rfl, qb, tb⟩
                have HB := hid (HA.out.step qb tb)
                clear HA qb tb hc
                have hc := HB.out.cell hlm
                go_wp2_with fail
                refine (clashes_N HB.out.1 _ _ HG.out _ (F3.out.trans F5.out)).mono ?_
                rintro e wd ⟨rfl, qd, td⟩
                have HD := hid (HB.out.step qd td)
                clear HB qd td hc
                go_wp2_with fail
                go_roundw
                case rel => exact ⟨m + 1, by omega, by go_num, HD⟩
                case measure => simp [intOf]; omega
            · obtain rfl : m = j := by omega
              have HV := hid (lastFacts (k := K) (n := m) (by omega) (by omega)).2
              go_wp2_with fail
              refine (live_N HX.out.1 _ _ HV.out).mono ?_
              rintro e wa ⟨rfl, rfl⟩
              go_wp2_with fail
              refine (known6 _).mono ?_
              rintro e wb ⟨rfl, hb⟩
              have hz := HX.out.1.below
              go_wp2_with fail
              go_ret
              exact ⟨rfl, hz.trans (hb.mono hz.size)⟩
        · have hb : (K == j) = false := by simp [hjk]
          have hbi : ((K : Int) == (j : Int)) = false := by simp; omega
          have e6 : (Ord.rr K j : Int) = (K : Int) + 1 := by unfold Ord.rr; rw [if_pos (by omega)]; omega
          have HQ2 : Hid (ClkN w.heap.size w wr w.heap.size (Ord.mid K j (Ord.clk K j))) := by show ClkN _ _ _ _ _; unfold Ord.mid; rw [if_neg (fun h => hjk h.symm)]; exact HQ.out
          have HO2 := HO
          rw [e6]
          clear hjk e6
          have H0 : Hid (OrdEnd w w.heap.size K j (.slice (some ⟨g, 0, none⟩) j cap) wr) := ⟨HQ2.out, HO2.out⟩
          clear HQ2 HO2 HO HQ
          go_wp2_with fail
          go_loopw [11] (fun i wx => ∃ m : Nat, m ≤ j ∧ i = .int .i64 (m : Int) ∧ Hid (OrdEnd w w.heap.size K j (.slice (some ⟨g, 0, none⟩) j cap) wx)) (fun i _ => j - (intOf i).toNat)
          case atStart => exact ⟨0, Nat.zero_le _, rfl, H0⟩
          case round =>
            obtain ⟨m, hm, rfl, HX⟩ := hrel
            clear H0
            by_cases hlm : m < j
            · obtain ⟨f1, f2, f3⟩ := HE.out m hlm
              have F1 := hid f1
              have F2 := hid f2
              have F3 := hid f3
              clear f1 f2 f3
              have hc := HX.out.cell hlm
              cases hk : decide (m < K)
              all_goals
                have h5 := dec_ge K m
                rw [hk] at F1 F2 h5
                simp only [Bool.not_true, Bool.not_false] at h5
                have F5 := hid h5
                go_wp2_with fail
                refine (sees_N HX.out.1 _ _ HG.out _ F1.out).mono ?_
                rintro e wa ⟨rfl, qa, ta⟩
                have HA := hid (HX.out.step qa ta)
                clear HX qa ta hc
                have hc := HA.out.cell hlm
                go_wp2_with fail
                refine (settled_N HA.out.1 _ HG.out _ F2.out).mono ?_
                rintro e wb ⟨rfl, qb, tb⟩
                have HB := hid (HA.out.step qb tb)
                clear HA qb tb hc
                have hc := HB.out.cell hlm
                go_wp2_with fail
                refine (clashes_N HB.out.1 _ _ HG.out _ (F3.out.trans F5.out)).mono ?_
                rintro e wd ⟨rfl, qd, td⟩
                have HD := hid (HB.out.step qd td)
                clear HB qd td hc
                go_wp2_with fail
                go_roundw
                case rel => exact ⟨m + 1, by omega, by go_num, HD⟩
                case measure => simp [intOf]; omega
            · obtain rfl : m = j := by omega
              have HV := hid (lastFacts (k := K) (n := m) (by omega) (by omega)).2
              go_wp2_with fail
              refine (live_N HX.out.1 _ _ HV.out).mono ?_
              rintro e wa ⟨rfl, rfl⟩
              go_wp2_with fail
              refine (known6 _).mono ?_
              rintro e wb ⟨rfl, hb⟩
              have hz := HX.out.1.below
              go_wp2_with fail
              go_ret
              exact ⟨rfl, hz.trans (hb.mono hz.size)⟩
end Go.Proofs.Ytdgojfjaooindaa
