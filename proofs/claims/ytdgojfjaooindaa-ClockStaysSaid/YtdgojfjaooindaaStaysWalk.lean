/-
  The walk of the law ClockStays: what a transaction sees stays, whatever others do meanwhile.
-/
import Derived.Test.YtdgojfjaooindaaPlaysWalk
import Derived.Test.YtdgojfjaooindaaStayPlain
namespace Go.Proofs.Ytdgojfjaooindaa
open Go.RowKit Go.Proofs.Lig

theorem info_bool : (Try.prog.info? 4).map (fun i => (i.zero, i.size, i.bytes)) = some (some (.bool false), 1, 1) := by kernel_rfl

/-- What was seen, as cells. -/
def was0 (c0 : Clk) (L : Nat) : List Value := (List.range L).map fun q : Nat => .bool (c0.sees ((L : Int) + 1) ((q : Int) + 1))
theorem was_len (c0 : Clk) (L : Nat) : (was0 c0 L).length = L := by simp [was0]
theorem was_take {c0 : Clk} {L q : Nat} (h : q < L) : (was0 c0 L).take (q + 1) = (was0 c0 L).take q ++ [.bool (c0.sees ((L : Int) + 1) ((q : Int) + 1))] := by
  rw [List.take_succ_eq_append_getElem (by rw [was_len]; exact h)]
  simp [was0]
theorem was_cell {w : World} {w0s g L cap q : Nat} {c0 : Clk} (h : w.ownsRow w0s 4 1 (.slice (some ⟨g, 0, none⟩) L cap) L (was0 c0 L)) (hq : q < L) : w.cell? ⟨g, q, none⟩ = some (.bool (c0.sees ((L : Int) + 1) ((q : Int) + 1))) := by
  rw [h.cellAt q (by omega)]
  simp [was0, hq]
theorem was_full {w : World} {N L q : Nat} {sv : Value} {c0 : Clk} (e : q = L) (h : w.ownsRow N 4 1 sv q ((was0 c0 L).take q)) : w.ownsRow N 4 1 sv L (was0 c0 L) := by
  subst e
  rwa [List.take_of_length_le (by rw [was_len]; omega)] at h
theorem was_push {w wb w5 : World} {R gg q L cap2 : Nat} {sv : Value} {c0 c : Clk} {v : Bool} {o : Obj} (h1 : ClkN w.heap.size w wb w.heap.size c0) (h2 : RefN w.heap.size w wb R c)
    (h3 : wb.ownsRow w.heap.size 4 1 sv q ((was0 c0 L).take q)) (hv : c0.sees ((L : Int) + 1) ((q : Int) + 1) = v) (hq : q < L)
    (h5 : w5.ownsRow w.heap.size 4 1 (.slice (some ⟨gg, 0, none⟩) (q + 1) cap2) (q + 1) ((was0 c0 L).take q ++ [.bool v])) (hg : (wb.alloc o).grownBy w5 sv.ownBlock) :
    ClkN w.heap.size w w5 w.heap.size c0 ∧ RefN w.heap.size w w5 R c ∧ w5.ownsRow w.heap.size 4 1 (.slice (some ⟨gg, 0, none⟩) (q + 1) cap2) (q + 1) ((was0 c0 L).take (q + 1)) := by
  have hb : Below wb.heap.size wb (wb.alloc o) := (Below.refl _ _).alloc (Nat.le_refl _) o
  have t1 : TFr [4] wb w5 := (TFr.of_below hb).trans (TFr.of_grown (h3.alloc o) hg)
  have hN : w.heap.size ≤ wb.heap.size := h1.below.size
  have b2 : Below w.heap.size wb w5 := (hb.mono hN).grown hg (by simp; omega) (fun k hk => (h3.lt k hk).1)
  exact ⟨h1.tfr t1 b2 (by decide), h2.tfr t1 b2 (by decide), by rw [was_take hq, hv]; exact h5⟩

/-- What the loop over the second script keeps. -/
structure StayRel (w : World) (R L M : Nat) (c0 : Clk) (sv : Value) (p : Nat) (d : Clk) (wr : World) : Prop where
  stay : Clk.Stay ((L : Int) + 1) M (fun b => c0.sees ((L : Int) + 1) b) d
  len : d.l.length ≤ 61 + p
  n : d.n ≤ 60 + p
  both : Both w.heap.size w wr w.heap.size R d
  row : wr.ownsRow w.heap.size 4 1 sv L (was0 c0 L)
theorem StayRel.skip {w : World} {R L M : Nat} {c0 : Clk} {sv : Value} {p : Nat} {d : Clk} {wr : World} (h : StayRel w R L M c0 sv p d wr) : StayRel w R L M c0 sv (p + 1) d wr :=
  ⟨h.stay, Nat.le_succ_of_le h.len, Nat.le_succ_of_le h.n, h.both, h.row⟩
theorem StayRel.act {w : World} {R L M : Nat} {c0 : Clk} {sv : Value} {p : Nat} {d : Clk} {wr wd : World} {k t : Int} (h : StayRel w R L M c0 sv p d wr) (ht : t ≠ (L : Int) + 1)
    (hq : Both w.heap.size w wd w.heap.size R (actC d k t)) (hf : TFr bothT wr wd) : StayRel w R L M c0 sv (p + 1) (actC d k t) wd := by
  refine ⟨?_, Nat.le_trans (len_act d k t) (by have := h.len; omega), Nat.le_trans (n_act d k t) (by have := h.n; omega), hq, own_tfr h.row hf (by decide)⟩
  unfold actC
  split
  · split; exact h.stay; exact h.stay.begin_
  · split
    · split
      · rename_i hl; exact h.stay.commit_ ht hl
      · exact h.stay
    · split
      · rename_i hl; exact h.stay.abort_ ht hl
      · exact h.stay
theorem later_none {c0 : Clk} {L : Nat} {b : Int} (h : c0.l.length = L + 1) (hb : (L : Int) + 1 < b) : c0.sees ((L : Int) + 1) b = false := by
  unfold Clk.sees
  have : c0.tx? b = none := by rw [Clk.tx?_none_iff]; omega
  rw [this]
  cases c0.tx? ((L : Int) + 1) <;> rfl

theorem stays_long (w : World) (A A2 : Option Addr) (len cap len2 cap2 : Nat) (h : 10000 < len ∨ 10000 < len2) (hm : (len : Int) ≤ 9223372036854775807) (hm2 : (len2 : Int) ≤ 9223372036854775807) :
    Calls Try.prog 4 #[.slice A len cap, .slice A2 len2 cap2] w fun e w' => e = .returned (.bool true) ∧ Below w.heap.size w w' := by
  by_cases h1 : 10000 < len
  · clear h
    go_enter Try.func4, Try.ntmps4
    go_wp2
    go_ret
    exact ⟨rfl, Below.refl _ _⟩
  · have h2 : 10000 < len2 := by omega
    clear h
    go_enter Try.func4, Try.ntmps4
    go_wp2
    go_ret
    exact ⟨rfl, Below.refl _ _⟩

set_option maxHeartbeats 8000000 in
set_option maxRecDepth 100000 in
theorem stays_short (w : World) (A A2 : Option Addr) (len cap len2 cap2 : Nat) (ks ts ks2 ts2 : Nat → Int) (hl : len ≤ 10000) (hl2 : len2 ≤ 10000) (hA : ActsAt w A len ks ts) (hA2 : ActsAt w A2 len2 ks2 ts2) :
    Calls Try.prog 4 #[.slice A len cap, .slice A2 len2 cap2] w fun e w' => e = .returned (.bool true) ∧ Below w.heap.size w w' := by
  have HA := hid hA
  have HA2 := hid hA2
  clear hA hA2
  go_enter Try.func4, Try.ntmps4
  go_wp2_with fail
  refine (new_N w).mono ?_
  rintro e w1 ⟨rfl, q1, _⟩
  have H0 : Hid (Both w.heap.size w (w1.alloc (.cells #[.slice none 0 0, .int .i64 0] 36)) w.heap.size w1.heap.size (runC Clk.new ks ts 0)) :=
    ⟨q1.step ((Below.refl _ _).alloc (Nat.le_refl _) _), r_new_N (Nat.le_refl _) q1.below⟩
  clear q1
  go_wp2_with fail
  obtain ⟨R, hR⟩ : ∃ R, w1.heap.size = R := ⟨_, rfl⟩
  rw [hR] at H0 ⊢
  clear hR
  obtain ⟨w2, hw2⟩ : ∃ w2, w1.alloc (.cells #[.slice none 0 0, .int .i64 0] 36) = w2 := ⟨_, rfl⟩
  rw [hw2] at H0 ⊢
  clear hw2
  go_loopw [7] (fun i wr => ∃ j : Nat, j ≤ len ∧ j ≤ 60 ∧ i = .int .i64 (j : Int) ∧ Hid (Both w.heap.size w wr w.heap.size R (runC Clk.new ks ts j))) (fun i _ => 60 - (intOf i).toNat)
  case atStart => exact ⟨0, Nat.zero_le _, by omega, rfl, H0⟩
  case round =>
    obtain ⟨j, hj, hj6, rfl, H⟩ := hrel
    clear H0
    by_cases hgo : j < len ∧ j < 60
    · obtain ⟨hlt, h60⟩ := hgo
      obtain ⟨b, off, rfl, hbw, hcells⟩ := HA.out (by omega)
      obtain ⟨c0, c1⟩ := hcells j hlt
      have d0 := (H.out.clk.below.cell (p := ⟨b, off + j * 2, none⟩) hbw).trans c0
      have d1 := (H.out.clk.below.cell (p := ⟨b, off + j * 2 + 1, none⟩) hbw).trans c1
      clear hcells c0 c1 hbw
      have hG := hid (good_run Clk.good_new ks ts j)
      have hL := hid (show (runC Clk.new ks ts j).l.length ≤ j from Nat.le_trans (len_run Clk.new ks ts j) (by show 0 + j ≤ j; omega))
      have hN := hid (show (runC Clk.new ks ts j).n ≤ j from Nat.le_trans (n_run Clk.new ks ts j) (by show 0 + j ≤ j; omega))
      go_wp2_with fail
      refine (act_any H.out hG.out (by have := hL.out; omega) (by have := hN.out; omega) (ks j) (ts j)).mono ?_
      rintro e wa ⟨rfl, qa, ta⟩
      have HQ : Hid (Both w.heap.size w wa w.heap.size R (runC Clk.new ks ts (j + 1))) := qa
      clear qa ta d0 d1 H
      go_wp2_with fail
      go_roundw
      case rel => exact ⟨j + 1, by omega, by omega, by go_num, HQ⟩
      case measure => simp [intOf]; omega
    · have hstop : len ≤ j ∨ 60 ≤ j := by omega
      clear hgo
      by_cases hlt : j < len
      · have h60 : 60 ≤ j := by omega
        clear hstop
        have hG0 := hid (good_run Clk.good_new ks ts j)
        have hL0 := show (runC Clk.new ks ts j).l.length ≤ j from Nat.le_trans (len_run Clk.new ks ts j) (by show 0 + j ≤ j; omega)
        have hN0 := show (runC Clk.new ks ts j).n ≤ j from Nat.le_trans (n_run Clk.new ks ts j) (by show 0 + j ≤ j; omega)
        obtain ⟨c, hc⟩ : ∃ c, runC Clk.new ks ts j = c := ⟨_, rfl⟩
        rw [hc] at H hG0 hL0 hN0
        clear hc
        by_cases hf : 4 ≤ c.count
        · have HF := hid hf
          clear hf
          go_wp2_with fail
          refine (begin_full_N H.out.clk HF.out).mono ?_
          rintro e wa ⟨rfl, qa, _⟩
          have HQA := hid qa
          clear qa H
          go_wp2_with fail
          refine (known6 _).mono ?_
          rintro e wx ⟨rfl, hb⟩
          have hz := HQA.out.below
          go_wp2_with fail
          go_ret
          exact ⟨rfl, hz.trans (hb.mono hz.size)⟩
        · have HF := hid (show c.count < 4 by omega)
          clear hf
          obtain ⟨L, hLc⟩ : ∃ L, c.l.length = L := ⟨_, rfl⟩
          obtain ⟨c0, hc0⟩ : ∃ c0, c.began = c0 := ⟨_, rfl⟩
          have HST : Hid (Clk.Stay ((L : Int) + 1) c.n (fun b => c0.sees ((L : Int) + 1) b) c0) := by have := Clk.stay_start hG0.out; rw [hLc, hc0] at this; exact this
          have HC0 : Hid (c0.l.length = L + 1) := by rw [← hc0, ← hLc]; exact Clk.length_began c
          have HN00 : Hid (c0.n ≤ j) := by rw [← hc0]; exact hN0
          have hL60 : L ≤ 60 := by omega
          have HLC := hid hLc
          have HCC := hid hc0
          clear hLc hc0 hL0 hN0
          go_wp2_with fail
          refine (begin_N H.out.clk HF.out (by have := HLC.out; omega) ((L : Int) + 1) (by have := HLC.out; omega)).mono ?_
          rintro e wa ⟨rfl, qa, ta⟩
          have HR := hid (H.out.ref.keep ta qa.below (by decide))
          have HQ : Hid (ClkN w.heap.size w wa w.heap.size c0) := by rw [← HCC.out]; exact qa
          clear qa ta H
          go_wp2_with fail
          go_loopw [10, 11] (fun sv b wr => ∃ q : Nat, q ≤ L ∧ b = .int .i64 ((q : Int) + 1) ∧ Hid (ClkN w.heap.size w wr w.heap.size c0 ∧ RefN w.heap.size w wr R c ∧ wr.ownsRow w.heap.size 4 1 sv q (was0 c0 L |>.take q))) (fun _ b _ => L - ((intOf b).toNat - 1))
          case atStart => exact ⟨0, Nat.zero_le _, rfl, ⟨HQ.out, HR.out, World.ownsRow_nil _ _ _ _⟩⟩
          case round =>
            obtain ⟨q, hq, rfl, HK⟩ := hrel
            clear HQ HR
            by_cases hqL : q < L
            · obtain ⟨v, hv⟩ : ∃ v, c0.sees ((L : Int) + 1) ((q : Int) + 1) = v := ⟨_, rfl⟩
              have HV := hid hv
              clear hv
              have HG := hid HST.out.good
              go_wp2_with fail
              refine (sees_N HK.out.1 _ _ HG.out _ HV.out).mono ?_
              rintro e wb ⟨rfl, qb, tb⟩
              have HQ1 := hid qb
              have HQ2 := hid (HK.out.2.1.keep tb qb.below (by decide))
              have HQ3 := hid (own_tfr HK.out.2.2 tb (by decide))
              clear qb tb HK
              obtain ⟨i0, hi, hz0, hz1, hz2⟩ := info_parts info_bool
              have HI := hid hi
              have HZ0 := hid hz0
              have HZ1 := hid hz1
              have HZ2 := hid hz2
              clear hi hz0 hz1 hz2
              go_wp2_with (at_builtin; refine wpList_append_lies _ rfl (.tmp 63) (.tmp 68) 40 rfl w.heap.size 4 i0 (.bool false) 1 1 Try.underlying40 HI.out HZ0.out HZ1.out HZ2.out rfl (by decide) _ q _ rfl (HQ3.out.alloc _) ⟨wb.heap.size, 0, none⟩ 1 1 [.bool v] rfl rfl (World.news_of_block (cs := #[.bool v]) (heap_alloc_new wb _)) (by simp [Value.oneCell']) (by decide) (by unfold maxLen; omega) (by omega) (by have := HQ1.out.below.size; simp; omega) (wb.heap.size + 1) (by simp) ?_; intro gg cap2 w5 hown5 hgrow hat hlt5)
              have HR5 : Hid (ClkN w.heap.size w w5 w.heap.size c0 ∧ RefN w.heap.size w w5 R c ∧ w5.ownsRow w.heap.size 4 1 (.slice (some ⟨gg, 0, none⟩) (q + 1) cap2) (q + 1) (was0 c0 L |>.take (q + 1))) := was_push HQ1.out HQ2.out HQ3.out HV.out hqL hown5 hgrow
              clear HQ1 HQ2 HQ3 hown5 hgrow hat hlt5
              go_wp2
              go_roundw
              case rel => exact ⟨q + 1, by omega, by go_num, HR5⟩
              case measure => simp [intOf]; omega
            · have hqL2 : q = L := by omega
              have HROW := hid (was_full hqL2 HK.out.2.2)
              have HK1 := hid HK.out.1
              have HK2 := hid HK.out.2.1
              clear hqL2 HK
              obtain ⟨sv, hsv⟩ : ∃ sv, u10 = sv := ⟨_, rfl⟩
              rw [hsv] at HROW ⊢
              clear hsv
              go_wp2_with fail
              refine (r_begin_N HK2.out HF.out (by have := HLC.out; omega) _ rfl).mono ?_
              rintro e wb ⟨rfl, qb, tb⟩
              have HB0 : Hid (Both w.heap.size w wb w.heap.size R c0) := ⟨HK1.out.keep tb qb.below (by decide), by rw [← HCC.out]; exact qb⟩
              have HROWB := hid (own_tfr HROW.out tb (by decide))
              clear qb tb HROW HK1 HK2
              have HT0 : Hid (StayRel w R L c.n c0 sv 0 c0 wb) := ⟨HST.out, by have := HC0.out; omega, by have := HN00.out; omega, HB0.out, HROWB.out⟩
              clear HB0 HROWB
              go_wp2_with fail
              go_loopw [12] (fun i wr => ∃ (p : Nat) (d : Clk), p ≤ len2 ∧ p ≤ 60 ∧ i = .int .i64 (p : Int) ∧ Hid (StayRel w R L c.n c0 sv p d wr)) (fun i _ => 60 - (intOf i).toNat)
              case atStart => exact ⟨0, c0, Nat.zero_le _, by omega, rfl, HT0⟩
              case round =>
                obtain ⟨p, d, hp, hp6, rfl, HT⟩ := hrel
                clear HT0
                by_cases hgo3 : p < len2 ∧ p < 60
                · obtain ⟨hlt3, h603⟩ := hgo3
                  obtain ⟨b, off, rfl, hbw, hcells⟩ := HA2.out (by omega)
                  obtain ⟨e0, e1⟩ := hcells p hlt3
                  have d0 := (HT.out.both.clk.below.cell (p := ⟨b, off + p * 2, none⟩) hbw).trans e0
                  have d1 := (HT.out.both.clk.below.cell (p := ⟨b, off + p * 2 + 1, none⟩) hbw).trans e1
                  clear hcells e0 e1 hbw
                  by_cases hT : ts2 p = (L : Int) + 1
                  · have hTb : (ts2 p != (L : Int) + 1) = false := by simp [hT]
                    have HTT := hid hT
                    clear hT
                    go_wp2_with fail
                    go_roundw
                    case rel => exact ⟨p + 1, d, by omega, by omega, by go_num, HT.out.skip⟩
                    case measure => simp [intOf]; omega
                  · have hTb : (ts2 p != (L : Int) + 1) = true := by simp [hT]
                    have HTT := hid hT
                    clear hT
                    go_wp2_with fail
                    refine (act_any HT.out.both HT.out.stay.good (by have := HT.out.len; omega) (by have := HT.out.n; omega) (ks2 p) (ts2 p)).mono ?_
                    rintro e wd ⟨rfl, qd, td⟩
                    have HT2 := hid (HT.out.act HTT.out qd td)
                    clear qd td HT d0 d1
                    go_wp2_with fail
                    go_roundw
                    case rel => exact ⟨p + 1, _, by omega, by omega, by go_num, HT2.out⟩
                    case measure => simp [intOf]; omega
                · have hstop3 : len2 ≤ p ∨ 60 ≤ p := by omega
                  clear hgo3
                  by_cases hlt3 : p < len2
                  · have h603 : 60 ≤ p := by omega
                    clear hstop3
                    obtain ⟨HS, HL3, HN3, HQ3, HW3⟩ := HT.out
                    have hG := hid HS.good
                    have HSees := hid HS.sees
                    have HLive := hid HS.live
                    have HB3 := hid HQ3
                    have HRow := hid HW3
                    clear HS HL3 HN3 HQ3 HW3 HT
                    go_wp2_with fail
                    go_loopw [13] (fun b wr => ∃ q : Nat, q ≤ L ∧ b = .int .i64 ((q : Int) + 1) ∧ Hid (Both w.heap.size w wr w.heap.size R d ∧ wr.ownsRow w.heap.size 4 1 sv L (was0 c0 L))) (fun b _ => L - ((intOf b).toNat - 1))
                    case atStart => exact ⟨0, Nat.zero_le _, rfl, ⟨HB3.out, HRow.out⟩⟩
                    case round =>
                      obtain ⟨q, hq, rfl, HK⟩ := hrel
                      clear HB3 HRow
                      by_cases hqL : q < L
                      · obtain ⟨g, cap3, rfl, _, hgw⟩ := HK.out.2.form (by omega)
                        have hcell := was_cell HK.out.2 hqL
                        obtain ⟨v, hv⟩ : ∃ v, c0.sees ((L : Int) + 1) ((q : Int) + 1) = v := ⟨_, rfl⟩
                        rw [hv] at hcell
                        have HV := hid ((HSees.out ((q : Int) + 1) (by omega)).trans hv)
                        have HRow2 := hid HK.out.2
                        have HBK := hid HK.out.1
                        clear hv HK
                        have hq0 : (0 : Int) ≤ (q : Int) := by omega
                        have hq1 : (q : Int) < (L : Int) := by omega
                        have hwr : IntKind.i64.wrap ((q : Int) + 1 - 1) = (q : Int) := by rw [IntKind.wrap_i64]; omega
                        have hwr2 : IntKind.i64.wrap (q : Int) = (q : Int) := by rw [IntKind.wrap_i64]; omega
                        go_wp2_with fail
                        go_region_held3 (fun w' => w'.cell? ⟨g, q, none⟩ = some (.bool v))
                          (first
                            | exact hcell
                            | exact (was_cell (own_tfr HRow2.out ta (by decide)) hqL).trans (by rw [← hcell, was_cell HRow2.out hqL])
                            | go_keep)
                          (first
                            | (go_at_call 20; refine (sees_N (N := w.heap.size) (w0 := w) (B := w.heap.size) (c := d) (by exact HBK.out.clk.drewN 1) _ _ hG.out _ HV.out).mono ?_; rintro e wa ⟨rfl, qa, ta⟩))
                        have HBA : Hid (Both w.heap.size w wa w.heap.size R d) := ⟨qa, (HBK.out.ref.drewN 1).keep ta qa.below (by decide)⟩
                        have HRA := hid (own_tfr (w := _) HRow2.out ta (by decide))
                        clear qa ta HBK HRow2 hcell
                        go_wp2_with fail
                        go_roundw
                        case rel => exact ⟨q + 1, by omega, by go_num, ⟨HBA.out, HRA.out⟩⟩
                        case measure => simp [intOf]; omega
                      · have hqL2 : q = L := by omega
                        have HQL := hid hqL2
                        have HBK := hid HK.out.1
                        clear hqL2 HK
                        go_wp2_with fail
                        go_loopw [14] (fun b wr => ∃ q : Nat, q ≤ 4 ∧ b = .int .i64 ((L : Int) + 2 + q) ∧ Hid (Both w.heap.size w wr w.heap.size R d)) (fun b _ => L + 6 - (intOf b).toNat)
                        case atStart => exact ⟨0, by omega, by go_num, HBK⟩
                        case round =>
                          obtain ⟨p, hp, rfl, HK⟩ := hrel
                          clear HBK
                          by_cases hp4 : p < 4
                          · have HV := hid ((HSees.out ((L : Int) + 2 + p) (by omega)).trans (later_none HC0.out (by omega)))
                            go_wp2_with fail
                            refine (sees_N HK.out.clk _ _ hG.out _ HV.out).mono ?_
                            rintro e wa ⟨rfl, qa, ta⟩
                            have HBA : Hid (Both w.heap.size w wa w.heap.size R d) := ⟨qa, HK.out.ref.keep ta qa.below (by decide)⟩
                            clear qa ta HK
                            go_wp2_with fail
                            go_roundw
                            case rel => exact ⟨p + 1, by omega, by go_num, HBA⟩
                            case measure => simp [intOf]; omega
                          · have hp5 : 4 ≤ p := by omega
                            go_wp2_with fail
                            refine (live_N HK.out.clk _ _ HLive.out).mono ?_
                            rintro e wa ⟨rfl, rfl⟩
                            go_wp2_with fail
                            refine (known6 _).mono ?_
                            rintro e wx ⟨rfl, hb⟩
                            have hz := HK.out.clk.below
                            go_wp2_with fail
                            go_ret
                            exact ⟨rfl, hz.trans (hb.mono hz.size)⟩
                  · have hle3 : len2 ≤ p := by omega
                    clear hstop3
                    obtain ⟨HS, HL3, HN3, HQ3, HW3⟩ := HT.out
                    have hG := hid HS.good
                    have HSees := hid HS.sees
                    have HLive := hid HS.live
                    have HB3 := hid HQ3
                    have HRow := hid HW3
                    clear HS HL3 HN3 HQ3 HW3 HT
                    go_wp2_with fail
                    go_loopw [13] (fun b wr => ∃ q : Nat, q ≤ L ∧ b = .int .i64 ((q : Int) + 1) ∧ Hid (Both w.heap.size w wr w.heap.size R d ∧ wr.ownsRow w.heap.size 4 1 sv L (was0 c0 L))) (fun b _ => L - ((intOf b).toNat - 1))
                    case atStart => exact ⟨0, Nat.zero_le _, rfl, ⟨HB3.out, HRow.out⟩⟩
                    case round =>
                      obtain ⟨q, hq, rfl, HK⟩ := hrel
                      clear HB3 HRow
                      by_cases hqL : q < L
                      · obtain ⟨g, cap3, rfl, _, hgw⟩ := HK.out.2.form (by omega)
                        have hcell := was_cell HK.out.2 hqL
                        obtain ⟨v, hv⟩ : ∃ v, c0.sees ((L : Int) + 1) ((q : Int) + 1) = v := ⟨_, rfl⟩
                        rw [hv] at hcell
                        have HV := hid ((HSees.out ((q : Int) + 1) (by omega)).trans hv)
                        have HRow2 := hid HK.out.2
                        have HBK := hid HK.out.1
                        clear hv HK
                        have hq0 : (0 : Int) ≤ (q : Int) := by omega
                        have hq1 : (q : Int) < (L : Int) := by omega
                        have hwr : IntKind.i64.wrap ((q : Int) + 1 - 1) = (q : Int) := by rw [IntKind.wrap_i64]; omega
                        have hwr2 : IntKind.i64.wrap (q : Int) = (q : Int) := by rw [IntKind.wrap_i64]; omega
                        go_wp2_with fail
                        go_region_held3 (fun w' => w'.cell? ⟨g, q, none⟩ = some (.bool v))
                          (first
                            | exact hcell
                            | exact (was_cell (own_tfr HRow2.out ta (by decide)) hqL).trans (by rw [← hcell, was_cell HRow2.out hqL])
                            | go_keep)
                          (first
                            | (go_at_call 20; refine (sees_N (N := w.heap.size) (w0 := w) (B := w.heap.size) (c := d) (by exact HBK.out.clk.drewN 1) _ _ hG.out _ HV.out).mono ?_; rintro e wa ⟨rfl, qa, ta⟩))
                        have HBA : Hid (Both w.heap.size w wa w.heap.size R d) := ⟨qa, (HBK.out.ref.drewN 1).keep ta qa.below (by decide)⟩
                        have HRA := hid (own_tfr (w := _) HRow2.out ta (by decide))
                        clear qa ta HBK HRow2 hcell
                        go_wp2_with fail
                        go_roundw
                        case rel => exact ⟨q + 1, by omega, by go_num, ⟨HBA.out, HRA.out⟩⟩
                        case measure => simp [intOf]; omega
                      · have hqL2 : q = L := by omega
                        have HQL := hid hqL2
                        have HBK := hid HK.out.1
                        clear hqL2 HK
                        go_wp2_with fail
                        go_loopw [14] (fun b wr => ∃ q : Nat, q ≤ 4 ∧ b = .int .i64 ((L : Int) + 2 + q) ∧ Hid (Both w.heap.size w wr w.heap.size R d)) (fun b _ => L + 6 - (intOf b).toNat)
                        case atStart => exact ⟨0, by omega, by go_num, HBK⟩
                        case round =>
                          obtain ⟨p, hp, rfl, HK⟩ := hrel
                          clear HBK
                          by_cases hp4 : p < 4
                          · have HV := hid ((HSees.out ((L : Int) + 2 + p) (by omega)).trans (later_none HC0.out (by omega)))
                            go_wp2_with fail
                            refine (sees_N HK.out.clk _ _ hG.out _ HV.out).mono ?_
                            rintro e wa ⟨rfl, qa, ta⟩
                            have HBA : Hid (Both w.heap.size w wa w.heap.size R d) := ⟨qa, HK.out.ref.keep ta qa.below (by decide)⟩
                            clear qa ta HK
                            go_wp2_with fail
                            go_roundw
                            case rel => exact ⟨p + 1, by omega, by go_num, HBA⟩
                            case measure => simp [intOf]; omega
                          · have hp5 : 4 ≤ p := by omega
                            go_wp2_with fail
                            refine (live_N HK.out.clk _ _ HLive.out).mono ?_
                            rintro e wa ⟨rfl, rfl⟩
                            go_wp2_with fail
                            refine (known6 _).mono ?_
                            rintro e wx ⟨rfl, hb⟩
                            have hz := HK.out.clk.below
                            go_wp2_with fail
                            go_ret
                            exact ⟨rfl, hz.trans (hb.mono hz.size)⟩
      · have hle : len ≤ j := by omega
        clear hstop
        have hG0 := hid (good_run Clk.good_new ks ts j)
        have hL0 := show (runC Clk.new ks ts j).l.length ≤ j from Nat.le_trans (len_run Clk.new ks ts j) (by show 0 + j ≤ j; omega)
        have hN0 := show (runC Clk.new ks ts j).n ≤ j from Nat.le_trans (n_run Clk.new ks ts j) (by show 0 + j ≤ j; omega)
        obtain ⟨c, hc⟩ : ∃ c, runC Clk.new ks ts j = c := ⟨_, rfl⟩
        rw [hc] at H hG0 hL0 hN0
        clear hc
        by_cases hf : 4 ≤ c.count
        · have HF := hid hf
          clear hf
          go_wp2_with fail
          refine (begin_full_N H.out.clk HF.out).mono ?_
          rintro e wa ⟨rfl, qa, _⟩
          have HQA := hid qa
          clear qa H
          go_wp2_with fail
          refine (known6 _).mono ?_
          rintro e wx ⟨rfl, hb⟩
          have hz := HQA.out.below
          go_wp2_with fail
          go_ret
          exact ⟨rfl, hz.trans (hb.mono hz.size)⟩
        · have HF := hid (show c.count < 4 by omega)
          clear hf
          obtain ⟨L, hLc⟩ : ∃ L, c.l.length = L := ⟨_, rfl⟩
          obtain ⟨c0, hc0⟩ : ∃ c0, c.began = c0 := ⟨_, rfl⟩
          have HST : Hid (Clk.Stay ((L : Int) + 1) c.n (fun b => c0.sees ((L : Int) + 1) b) c0) := by have := Clk.stay_start hG0.out; rw [hLc, hc0] at this; exact this
          have HC0 : Hid (c0.l.length = L + 1) := by rw [← hc0, ← hLc]; exact Clk.length_began c
          have HN00 : Hid (c0.n ≤ j) := by rw [← hc0]; exact hN0
          have hL60 : L ≤ 60 := by omega
          have HLC := hid hLc
          have HCC := hid hc0
          clear hLc hc0 hL0 hN0
          go_wp2_with fail
          refine (begin_N H.out.clk HF.out (by have := HLC.out; omega) ((L : Int) + 1) (by have := HLC.out; omega)).mono ?_
          rintro e wa ⟨rfl, qa, ta⟩
          have HR := hid (H.out.ref.keep ta qa.below (by decide))
          have HQ : Hid (ClkN w.heap.size w wa w.heap.size c0) := by rw [← HCC.out]; exact qa
          clear qa ta H
          go_wp2_with fail
          go_loopw [10, 11] (fun sv b wr => ∃ q : Nat, q ≤ L ∧ b = .int .i64 ((q : Int) + 1) ∧ Hid (ClkN w.heap.size w wr w.heap.size c0 ∧ RefN w.heap.size w wr R c ∧ wr.ownsRow w.heap.size 4 1 sv q (was0 c0 L |>.take q))) (fun _ b _ => L - ((intOf b).toNat - 1))
          case atStart => exact ⟨0, Nat.zero_le _, rfl, ⟨HQ.out, HR.out, World.ownsRow_nil _ _ _ _⟩⟩
          case round =>
            obtain ⟨q, hq, rfl, HK⟩ := hrel
            clear HQ HR
            by_cases hqL : q < L
            · obtain ⟨v, hv⟩ : ∃ v, c0.sees ((L : Int) + 1) ((q : Int) + 1) = v := ⟨_, rfl⟩
              have HV := hid hv
              clear hv
              have HG := hid HST.out.good
              go_wp2_with fail
              refine (sees_N HK.out.1 _ _ HG.out _ HV.out).mono ?_
              rintro e wb ⟨rfl, qb, tb⟩
              have HQ1 := hid qb
              have HQ2 := hid (HK.out.2.1.keep tb qb.below (by decide))
              have HQ3 := hid (own_tfr HK.out.2.2 tb (by decide))
              clear qb tb HK
              obtain ⟨i0, hi, hz0, hz1, hz2⟩ := info_parts info_bool
              have HI := hid hi
              have HZ0 := hid hz0
              have HZ1 := hid hz1
              have HZ2 := hid hz2
              clear hi hz0 hz1 hz2
              go_wp2_with (at_builtin; refine wpList_append_lies _ rfl (.tmp 63) (.tmp 68) 40 rfl w.heap.size 4 i0 (.bool false) 1 1 Try.underlying40 HI.out HZ0.out HZ1.out HZ2.out rfl (by decide) _ q _ rfl (HQ3.out.alloc _) ⟨wb.heap.size, 0, none⟩ 1 1 [.bool v] rfl rfl (World.news_of_block (cs := #[.bool v]) (heap_alloc_new wb _)) (by simp [Value.oneCell']) (by decide) (by unfold maxLen; omega) (by omega) (by have := HQ1.out.below.size; simp; omega) (wb.heap.size + 1) (by simp) ?_; intro gg cap2 w5 hown5 hgrow hat hlt5)
              have HR5 : Hid (ClkN w.heap.size w w5 w.heap.size c0 ∧ RefN w.heap.size w w5 R c ∧ w5.ownsRow w.heap.size 4 1 (.slice (some ⟨gg, 0, none⟩) (q + 1) cap2) (q + 1) (was0 c0 L |>.take (q + 1))) := was_push HQ1.out HQ2.out HQ3.out HV.out hqL hown5 hgrow
              clear HQ1 HQ2 HQ3 hown5 hgrow hat hlt5
              go_wp2
              go_roundw
              case rel => exact ⟨q + 1, by omega, by go_num, HR5⟩
              case measure => simp [intOf]; omega
            · have hqL2 : q = L := by omega
              have HROW := hid (was_full hqL2 HK.out.2.2)
              have HK1 := hid HK.out.1
              have HK2 := hid HK.out.2.1
              clear hqL2 HK
              obtain ⟨sv, hsv⟩ : ∃ sv, u10 = sv := ⟨_, rfl⟩
              rw [hsv] at HROW ⊢
              clear hsv
              go_wp2_with fail
              refine (r_begin_N HK2.out HF.out (by have := HLC.out; omega) _ rfl).mono ?_
              rintro e wb ⟨rfl, qb, tb⟩
              have HB0 : Hid (Both w.heap.size w wb w.heap.size R c0) := ⟨HK1.out.keep tb qb.below (by decide), by rw [← HCC.out]; exact qb⟩
              have HROWB := hid (own_tfr HROW.out tb (by decide))
              clear qb tb HROW HK1 HK2
              have HT0 : Hid (StayRel w R L c.n c0 sv 0 c0 wb) := ⟨HST.out, by have := HC0.out; omega, by have := HN00.out; omega, HB0.out, HROWB.out⟩
              clear HB0 HROWB
              go_wp2_with fail
              go_loopw [12] (fun i wr => ∃ (p : Nat) (d : Clk), p ≤ len2 ∧ p ≤ 60 ∧ i = .int .i64 (p : Int) ∧ Hid (StayRel w R L c.n c0 sv p d wr)) (fun i _ => 60 - (intOf i).toNat)
              case atStart => exact ⟨0, c0, Nat.zero_le _, by omega, rfl, HT0⟩
              case round =>
                obtain ⟨p, d, hp, hp6, rfl, HT⟩ := hrel
                clear HT0
                by_cases hgo3 : p < len2 ∧ p < 60
                · obtain ⟨hlt3, h603⟩ := hgo3
                  obtain ⟨b, off, rfl, hbw, hcells⟩ := HA2.out (by omega)
                  obtain ⟨e0, e1⟩ := hcells p hlt3
                  have d0 := (HT.out.both.clk.below.cell (p := ⟨b, off + p * 2, none⟩) hbw).trans e0
                  have d1 := (HT.out.both.clk.below.cell (p := ⟨b, off + p * 2 + 1, none⟩) hbw).trans e1
                  clear hcells e0 e1 hbw
                  by_cases hT : ts2 p = (L : Int) + 1
                  · have hTb : (ts2 p != (L : Int) + 1) = false := by simp [hT]
                    have HTT := hid hT
                    clear hT
                    go_wp2_with fail
                    go_roundw
                    case rel => exact ⟨p + 1, d, by omega, by omega, by go_num, HT.out.skip⟩
                    case measure => simp [intOf]; omega
                  · have hTb : (ts2 p != (L : Int) + 1) = true := by simp [hT]
                    have HTT := hid hT
                    clear hT
                    go_wp2_with fail
                    refine (act_any HT.out.both HT.out.stay.good (by have := HT.out.len; omega) (by have := HT.out.n; omega) (ks2 p) (ts2 p)).mono ?_
                    rintro e wd ⟨rfl, qd, td⟩
                    have HT2 := hid (HT.out.act HTT.out qd td)
                    clear qd td HT d0 d1
                    go_wp2_with fail
                    go_roundw
                    case rel => exact ⟨p + 1, _, by omega, by omega, by go_num, HT2.out⟩
                    case measure => simp [intOf]; omega
                · have hstop3 : len2 ≤ p ∨ 60 ≤ p := by omega
                  clear hgo3
                  by_cases hlt3 : p < len2
                  · have h603 : 60 ≤ p := by omega
                    clear hstop3
                    obtain ⟨HS, HL3, HN3, HQ3, HW3⟩ := HT.out
                    have hG := hid HS.good
                    have HSees := hid HS.sees
                    have HLive := hid HS.live
                    have HB3 := hid HQ3
                    have HRow := hid HW3
                    clear HS HL3 HN3 HQ3 HW3 HT
                    go_wp2_with fail
                    go_loopw [13] (fun b wr => ∃ q : Nat, q ≤ L ∧ b = .int .i64 ((q : Int) + 1) ∧ Hid (Both w.heap.size w wr w.heap.size R d ∧ wr.ownsRow w.heap.size 4 1 sv L (was0 c0 L))) (fun b _ => L - ((intOf b).toNat - 1))
                    case atStart => exact ⟨0, Nat.zero_le _, rfl, ⟨HB3.out, HRow.out⟩⟩
                    case round =>
                      obtain ⟨q, hq, rfl, HK⟩ := hrel
                      clear HB3 HRow
                      by_cases hqL : q < L
                      · obtain ⟨g, cap3, rfl, _, hgw⟩ := HK.out.2.form (by omega)
                        have hcell := was_cell HK.out.2 hqL
                        obtain ⟨v, hv⟩ : ∃ v, c0.sees ((L : Int) + 1) ((q : Int) + 1) = v := ⟨_, rfl⟩
                        rw [hv] at hcell
                        have HV := hid ((HSees.out ((q : Int) + 1) (by omega)).trans hv)
                        have HRow2 := hid HK.out.2
                        have HBK := hid HK.out.1
                        clear hv HK
                        have hq0 : (0 : Int) ≤ (q : Int) := by omega
                        have hq1 : (q : Int) < (L : Int) := by omega
                        have hwr : IntKind.i64.wrap ((q : Int) + 1 - 1) = (q : Int) := by rw [IntKind.wrap_i64]; omega
                        have hwr2 : IntKind.i64.wrap (q : Int) = (q : Int) := by rw [IntKind.wrap_i64]; omega
                        go_wp2_with fail
                        go_region_held3 (fun w' => w'.cell? ⟨g, q, none⟩ = some (.bool v))
                          (first
                            | exact hcell
                            | exact (was_cell (own_tfr HRow2.out ta (by decide)) hqL).trans (by rw [← hcell, was_cell HRow2.out hqL])
                            | go_keep)
                          (first
                            | (go_at_call 20; refine (sees_N (N := w.heap.size) (w0 := w) (B := w.heap.size) (c := d) (by exact HBK.out.clk.drewN 1) _ _ hG.out _ HV.out).mono ?_; rintro e wa ⟨rfl, qa, ta⟩))
                        have HBA : Hid (Both w.heap.size w wa w.heap.size R d) := ⟨qa, (HBK.out.ref.drewN 1).keep ta qa.below (by decide)⟩
                        have HRA := hid (own_tfr (w := _) HRow2.out ta (by decide))
                        clear qa ta HBK HRow2 hcell
                        go_wp2_with fail
                        go_roundw
                        case rel => exact ⟨q + 1, by omega, by go_num, ⟨HBA.out, HRA.out⟩⟩
                        case measure => simp [intOf]; omega
                      · have hqL2 : q = L := by omega
                        have HQL := hid hqL2
                        have HBK := hid HK.out.1
                        clear hqL2 HK
                        go_wp2_with fail
                        go_loopw [14] (fun b wr => ∃ q : Nat, q ≤ 4 ∧ b = .int .i64 ((L : Int) + 2 + q) ∧ Hid (Both w.heap.size w wr w.heap.size R d)) (fun b _ => L + 6 - (intOf b).toNat)
                        case atStart => exact ⟨0, by omega, by go_num, HBK⟩
                        case round =>
                          obtain ⟨p, hp, rfl, HK⟩ := hrel
                          clear HBK
                          by_cases hp4 : p < 4
                          · have HV := hid ((HSees.out ((L : Int) + 2 + p) (by omega)).trans (later_none HC0.out (by omega)))
                            go_wp2_with fail
                            refine (sees_N HK.out.clk _ _ hG.out _ HV.out).mono ?_
                            rintro e wa ⟨rfl, qa, ta⟩
                            have HBA : Hid (Both w.heap.size w wa w.heap.size R d) := ⟨qa, HK.out.ref.keep ta qa.below (by decide)⟩
                            clear qa ta HK
                            go_wp2_with fail
                            go_roundw
                            case rel => exact ⟨p + 1, by omega, by go_num, HBA⟩
                            case measure => simp [intOf]; omega
                          · have hp5 : 4 ≤ p := by omega
                            go_wp2_with fail
                            refine (live_N HK.out.clk _ _ HLive.out).mono ?_
                            rintro e wa ⟨rfl, rfl⟩
                            go_wp2_with fail
                            refine (known6 _).mono ?_
                            rintro e wx ⟨rfl, hb⟩
                            have hz := HK.out.clk.below
                            go_wp2_with fail
                            go_ret
                            exact ⟨rfl, hz.trans (hb.mono hz.size)⟩
                  · have hle3 : len2 ≤ p := by omega
                    clear hstop3
                    obtain ⟨HS, HL3, HN3, HQ3, HW3⟩ := HT.out
                    have hG := hid HS.good
                    have HSees := hid HS.sees
                    have HLive := hid HS.live
                    have HB3 := hid HQ3
                    have HRow := hid HW3
                    clear HS HL3 HN3 HQ3 HW3 HT
                    go_wp2_with fail
                    go_loopw [13] (fun b wr => ∃ q : Nat, q ≤ L ∧ b = .int .i64 ((q : Int) + 1) ∧ Hid (Both w.heap.size w wr w.heap.size R d ∧ wr.ownsRow w.heap.size 4 1 sv L (was0 c0 L))) (fun b _ => L - ((intOf b).toNat - 1))
                    case atStart => exact ⟨0, Nat.zero_le _, rfl, ⟨HB3.out, HRow.out⟩⟩
                    case round =>
                      obtain ⟨q, hq, rfl, HK⟩ := hrel
                      clear HB3 HRow
                      by_cases hqL : q < L
                      · obtain ⟨g, cap3, rfl, _, hgw⟩ := HK.out.2.form (by omega)
                        have hcell := was_cell HK.out.2 hqL
                        obtain ⟨v, hv⟩ : ∃ v, c0.sees ((L : Int) + 1) ((q : Int) + 1) = v := ⟨_, rfl⟩
                        rw [hv] at hcell
                        have HV := hid ((HSees.out ((q : Int) + 1) (by omega)).trans hv)
                        have HRow2 := hid HK.out.2
                        have HBK := hid HK.out.1
                        clear hv HK
                        have hq0 : (0 : Int) ≤ (q : Int) := by omega
                        have hq1 : (q : Int) < (L : Int) := by omega
                        have hwr : IntKind.i64.wrap ((q : Int) + 1 - 1) = (q : Int) := by rw [IntKind.wrap_i64]; omega
                        have hwr2 : IntKind.i64.wrap (q : Int) = (q : Int) := by rw [IntKind.wrap_i64]; omega
                        go_wp2_with fail
                        go_region_held3 (fun w' => w'.cell? ⟨g, q, none⟩ = some (.bool v))
                          (first
                            | exact hcell
                            | exact (was_cell (own_tfr HRow2.out ta (by decide)) hqL).trans (by rw [← hcell, was_cell HRow2.out hqL])
                            | go_keep)
                          (first
                            | (go_at_call 20; refine (sees_N (N := w.heap.size) (w0 := w) (B := w.heap.size) (c := d) (by exact HBK.out.clk.drewN 1) _ _ hG.out _ HV.out).mono ?_; rintro e wa ⟨rfl, qa, ta⟩))
                        have HBA : Hid (Both w.heap.size w wa w.heap.size R d) := ⟨qa, (HBK.out.ref.drewN 1).keep ta qa.below (by decide)⟩
                        have HRA := hid (own_tfr (w := _) HRow2.out ta (by decide))
                        clear qa ta HBK HRow2 hcell
                        go_wp2_with fail
                        go_roundw
                        case rel => exact ⟨q + 1, by omega, by go_num, ⟨HBA.out, HRA.out⟩⟩
                        case measure => simp [intOf]; omega
                      · have hqL2 : q = L := by omega
                        have HQL := hid hqL2
                        have HBK := hid HK.out.1
                        clear hqL2 HK
                        go_wp2_with fail
                        go_loopw [14] (fun b wr => ∃ q : Nat, q ≤ 4 ∧ b = .int .i64 ((L : Int) + 2 + q) ∧ Hid (Both w.heap.size w wr w.heap.size R d)) (fun b _ => L + 6 - (intOf b).toNat)
                        case atStart => exact ⟨0, by omega, by go_num, HBK⟩
                        case round =>
                          obtain ⟨p, hp, rfl, HK⟩ := hrel
                          clear HBK
                          by_cases hp4 : p < 4
                          · have HV := hid ((HSees.out ((L : Int) + 2 + p) (by omega)).trans (later_none HC0.out (by omega)))
                            go_wp2_with fail
                            refine (sees_N HK.out.clk _ _ hG.out _ HV.out).mono ?_
                            rintro e wa ⟨rfl, qa, ta⟩
                            have HBA : Hid (Both w.heap.size w wa w.heap.size R d) := ⟨qa, HK.out.ref.keep ta qa.below (by decide)⟩
                            clear qa ta HK
                            go_wp2_with fail
                            go_roundw
                            case rel => exact ⟨p + 1, by omega, by go_num, HBA⟩
                            case measure => simp [intOf]; omega
                          · have hp5 : 4 ≤ p := by omega
                            go_wp2_with fail
                            refine (live_N HK.out.clk _ _ HLive.out).mono ?_
                            rintro e wa ⟨rfl, rfl⟩
                            go_wp2_with fail
                            refine (known6 _).mono ?_
                            rintro e wx ⟨rfl, hb⟩
                            have hz := HK.out.clk.below
                            go_wp2_with fail
                            go_ret
                            exact ⟨rfl, hz.trans (hb.mono hz.size)⟩
end Go.Proofs.Ytdgojfjaooindaa
