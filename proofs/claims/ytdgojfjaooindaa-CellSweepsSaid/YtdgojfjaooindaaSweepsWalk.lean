/-
  The walk of the law CellSweeps: sweeping turns nothing that anyone reads, or is refused; it ends, and leaves what must stay. (Printed by mk/sweeps.py.)
-/
import Derived.Test.YtdgojfjaooindaaActs7
import Derived.Test.YtdgojfjaooindaaSweepsA
import Derived.Test.YtdgojfjaooindaaKnown7
namespace Go.Proofs.Ytdgojfjaooindaa
open Go.RowKit Go.Proofs.Lig

set_option maxRecDepth 100000 in
theorem sweeps7_long (w : World) (A : Option Addr) (len cap : Nat) (h : 10000 < len) (hm : (len : Int) ≤ 9223372036854775807) :
    Calls Try.prog 12 #[.slice A len cap] w fun e w' => e = .returned (.bool true) ∧ Below w.heap.size w w' := by
  go_enter Try.func12, Try.ntmps12
  go_wp2
  go_ret
  exact ⟨rfl, Below.refl _ _⟩

set_option maxHeartbeats 8000000 in
set_option maxRecDepth 100000 in
theorem sweeps7_short (w : World) (A : Option Addr) (len cap : Nat) (ks ts vs : Nat → Int) (gs : Nat → Bool) (hl : len ≤ 10000) (hA : ActsAt7 w A len ks ts vs gs) :
    Calls Try.prog 12 #[.slice A len cap] w fun e w' => e = .returned (.bool true) ∧ Below w.heap.size w w' := by
  have HA := hid hA
  clear hA
  obtain ⟨i1, j1, j2, j3, j4⟩ := info_parts info_int7
  obtain ⟨i2, k1, k2, k3, k4⟩ := info_parts info_bool7
  obtain ⟨i3, m1, m2, m3, m4⟩ := info_parts info_errno7
  have J1 := hid j1
  have J2 := hid j2
  have J3 := hid j3
  have J4 := hid j4
  have K1 := hid k1
  have K2 := hid k2
  have K3 := hid k3
  have K4 := hid k4
  have M1 := hid m1
  have M2 := hid m2
  have M3 := hid m3
  have M4 := hid m4
  clear j1 j2 j3 j4 k1 k2 k3 k4 m1 m2 m3 m4
  go_enter Try.func12, Try.ntmps12
  go_wp2_with fail
  refine (begin_zw w).mono ?_
  rintro e w1 ⟨Z, B, X, D, Y, rfl, q1⟩
  have H0 : Hid (ZW w.heap.size w w1 Z B X D Y ((runS ks ts vs gs 0).1.l.length : Int) (runS ks ts vs gs 0).1 (runS ks ts vs gs 0).2 (runS ks ts vs gs 0).1 (runS ks ts vs gs 0).2) := q1
  clear q1
  go_wp2_with fail
  go_loopw [4] (fun i wr => ∃ j : Nat, j ≤ len ∧ j ≤ 60 ∧ i = .int .i64 (j : Int) ∧ Hid (ZW w.heap.size w wr Z B X D Y ((runS ks ts vs gs j).1.l.length : Int) (runS ks ts vs gs j).1 (runS ks ts vs gs j).2 (runS ks ts vs gs j).1 (runS ks ts vs gs j).2)) (fun i _ => 60 - (intOf i).toNat)
  case atStart => exact ⟨0, Nat.zero_le _, by omega, rfl, H0⟩
  case round =>
    obtain ⟨j, hj, hj6, rfl, H⟩ := hrel
    clear H0
    by_cases hgo : j < len ∧ j < 60
    · obtain ⟨hlt, h60⟩ := hgo
      obtain ⟨b, off, rfl, hbw, hcells⟩ := HA.out (by omega)
      obtain ⟨c0, c1, c2, c3⟩ := hcells j hlt
      have d0 := (H.out.below.cell (p := ⟨b, off + j * 4, none⟩) hbw).trans c0
      have d1 := (H.out.below.cell (p := ⟨b, off + j * 4 + 1, none⟩) hbw).trans c1
      have d2 := (H.out.below.cell (p := ⟨b, off + j * 4 + 2, none⟩) hbw).trans c2
      have d3 := (H.out.below.cell (p := ⟨b, off + j * 4 + 3, none⟩) hbw).trans c3
      clear hcells c0 c1 c2 c3 hbw
      have HF := hid (fine_run ks ts vs gs j)
      have HL := hid (len_runS ks ts vs gs j)
      have HC := hid (act7_any H.out HF.out (by have := HL.out; omega) (by have := HL.out; omega) (by have := HL.out; omega) (ks j) (ts j) (vs j) (gs j))
      go_wp2_with fail
      refine HC.out.mono ?_
      rintro e wa ⟨rfl, qa⟩
      have HQ : Hid (ZW w.heap.size w wa Z B X D Y ((runS ks ts vs gs (j + 1)).1.l.length : Int) (runS ks ts vs gs (j + 1)).1 (runS ks ts vs gs (j + 1)).2 (runS ks ts vs gs (j + 1)).1 (runS ks ts vs gs (j + 1)).2) := qa
      clear qa d0 d1 d2 d3 H HC
      go_wp2_with fail
      go_roundw
      case rel => exact ⟨j + 1, by omega, by omega, by go_num, HQ⟩
      case measure => simp [intOf]; omega
    · have hways : (j < len ∧ 60 ≤ j) ∨ len ≤ j := by omega
      clear hgo
      rcases hways with ⟨hlt, h60⟩ | hle
      all_goals
        have HF := hid (fine_run ks ts vs gs j)
        have HL := hid (len_runS ks ts vs gs j)
        obtain ⟨s, hs⟩ : ∃ s, runS ks ts vs gs j = s := ⟨_, rfl⟩
        rw [hs] at H HF HL
        obtain ⟨c, l⟩ := s
        have HG : Hid c.Good := HF.out.good
        have HI : Hid (Inv c l) := HF.out.inv
        obtain ⟨L, hL⟩ : ∃ L, c.l.length = L := ⟨_, rfl⟩
        have hL60 : L ≤ 60 := by have := HL.out.1; simp only [hL] at this; omega
        have hl60 : l.length ≤ 60 := by have := HL.out.2.2; simp only at this; omega
        have HZ : Hid (ZW w.heap.size w wr Z B X D Y (L : Int) c l c l) := by show ZW _ _ _ _ _ _ _ _ _ _ _ _ _; rw [← hL]; exact H.out
        clear H HF HL hs hL
        have z4 := HZ.out.blk.cell 4
        simp only [List.getElem?_cons_zero, List.getElem?_cons_succ] at z4
        go_wp2_with fail
        have HT0 : Hid (SwRel w wr Z B X D Y L c l l (.slice none 0 0) (.slice none 0 0) (.slice none 0 0) 0) := ⟨HZ.out, World.ownsRow_nil _ _ _ _, World.ownsRow_nil _ _ _ _, World.ownsRow_nil _ _ _ _⟩
        go_loopw [5, 6, 7, 8] (fun sv so se i wr => ∃ t : Nat, t ≤ L ∧ i = .int .i64 ((t : Int) + 1) ∧ Hid (SwRel w wr Z B X D Y L c l l sv so se t)) (fun _ _ _ i _ => L + 1 - (intOf i).toNat)
        case atStart => exact ⟨0, Nat.zero_le _, rfl, HT0⟩
        case round =>
          obtain ⟨t, ht, rfl, HT⟩ := hrel
          clear HT0 HZ z4
          have z2 := HT.out.zw.blk.cell 2
          have z4 := HT.out.zw.blk.cell 4
          simp only [List.getElem?_cons_zero, List.getElem?_cons_succ] at z2 z4
          by_cases htL : t < L
          · obtain ⟨lv, hlv⟩ : ∃ lv, c.live ((t : Int) + 1) = lv := ⟨_, rfl⟩
            have HLV := hid hlv
            clear hlv
            cases lv
            · have HVA : Hid (rdV c l ((t : Int) + 1) = 0) := by show _ = _; unfold rdV; rw [HLV.out]; rfl
              have HVB : Hid (rdB c l ((t : Int) + 1) = false) := by show _ = _; unfold rdB; rw [HLV.out]; rfl
              have HVE : Hid (rdE c l ((t : Int) + 1) = 0) := by show _ = _; unfold rdE; rw [HLV.out]; rfl
              go_wp2_with fail
              refine (y_live HT.out.zw _ _ HLV.out).mono ?_
              rintro e wx ⟨rfl, rfl⟩
              clear z2 z4
              go_wp2_with (first
                | (at_builtin
                   refine wpList_append_lies _ rfl (.tmp 82) (.tmp 84) 24 rfl w.heap.size 3 i1 (.int .i64 0) 1 8 Try.underlying24 J1.out J2.out J3.out J4.out rfl (by decide) _ t _ rfl (HT.out.v.alloc _) ⟨wr.heap.size, 0, none⟩ 1 1 [.int .i64 0] rfl rfl (World.news_of_block (cs := #[.int .i64 0]) (heap_alloc_new wr _)) (by simp [Value.oneCell']) (by decide) (by unfold maxLen; omega) (by omega) (by have := HT.out.zw.size; simp; omega) (wr.heap.size + 1) (by simp) ?_
                   intro g1 p1 x1 hown1 hgrow1 hat1 hlt1
                   have Q1 := hid (row_keep HT.out.v HT.out.zw.size hgrow1)
                   have Z1 := hid (HT.out.zw.keepTo Q1.out.1 Q1.out.2 (by decide) (by decide) (by decide))
                   have V1 := hid hown1
                   have O1 := hid (own_tfr HT.out.o Q1.out.1 (by decide))
                   have E1 := hid (own_tfr HT.out.e Q1.out.1 (by decide))
                   clear hown1 hgrow1 hat1 hlt1)
                | (at_builtin
                   refine wpList_append_lies _ rfl (.tmp 86) (.tmp 88) 40 rfl w.heap.size 4 i2 (.bool false) 1 1 Try.underlying40 K1.out K2.out K3.out K4.out rfl (by decide) _ t _ rfl (O1.out.alloc _) ⟨x1.heap.size, 0, none⟩ 1 1 [.bool false] rfl rfl (World.news_of_block (cs := #[.bool false]) (heap_alloc_new x1 _)) (by simp [Value.oneCell']) (by decide) (by unfold maxLen; omega) (by omega) (by have := Z1.out.size; simp; omega) (x1.heap.size + 1) (by simp) ?_
                   intro g2 p2 x2 hown2 hgrow2 hat2 hlt2
                   have Q2 := hid (row_keep O1.out Z1.out.size hgrow2)
                   have Z2 := hid (Z1.out.keepTo Q2.out.1 Q2.out.2 (by decide) (by decide) (by decide))
                   have V2 := hid (own_tfr V1.out Q2.out.1 (by decide))
                   have O2 := hid hown2
                   have E2 := hid (own_tfr E1.out Q2.out.1 (by decide))
                   clear hown2 hgrow2 hat2 hlt2)
                | (at_builtin
                   refine wpList_append_lies _ rfl (.tmp 90) (.tmp 92) 69 rfl w.heap.size 25 i3 (.int .i64 0) 1 8 Try.underlying69 M1.out M2.out M3.out M4.out rfl (by decide) _ t _ rfl (E2.out.alloc _) ⟨x2.heap.size, 0, none⟩ 1 1 [.int .i64 0] rfl rfl (World.news_of_block (cs := #[.int .i64 0]) (heap_alloc_new x2 _)) (by simp [Value.oneCell']) (by decide) (by unfold maxLen; omega) (by omega) (by have := Z2.out.size; simp; omega) (x2.heap.size + 1) (by simp) ?_
                   intro g3 p3 x3 hown3 hgrow3 hat3 hlt3
                   have Q3 := hid (row_keep E2.out Z2.out.size hgrow3)
                   have Z3 := hid (Z2.out.keepTo Q3.out.1 Q3.out.2 (by decide) (by decide) (by decide))
                   have V3 := hid (own_tfr V2.out Q3.out.1 (by decide))
                   have O3 := hid (own_tfr O2.out Q3.out.1 (by decide))
                   have E3 := hid hown3
                   clear hown3 hgrow3 hat3 hlt3))
              go_roundw
              case rel => exact ⟨t + 1, by omega, by go_num, ⟨Z3.out, by rw [← rowV_succ HVA.out]; exact V3.out, by rw [← rowB_succ HVB.out]; exact O3.out, by rw [← rowE_succ HVE.out]; exact E3.out⟩⟩
              case measure => simp [intOf]; omega
            · obtain ⟨a, ha⟩ : ∃ a, (Cel.lastBy (c.sees ((t : Int) + 1)) l).getD 0 = a := ⟨_, rfl⟩
              obtain ⟨b, hb⟩ : ∃ b, (Cel.lastBy (c.sees ((t : Int) + 1)) l).isSome = b := ⟨_, rfl⟩
              obtain ⟨f, hf⟩ : ∃ f : Int, (if Cel.blocked c l ((t : Int) + 1) then 6 else 0) = f := ⟨_, rfl⟩
              have HVA : Hid (rdV c l ((t : Int) + 1) = a) := by show _ = _; unfold rdV; rw [HLV.out, ← ha]; rfl
              have HVB : Hid (rdB c l ((t : Int) + 1) = b) := by show _ = _; unfold rdB; rw [HLV.out, ← hb]; rfl
              have HVE : Hid (rdE c l ((t : Int) + 1) = f) := by show _ = _; unfold rdE; rw [HLV.out, ← hf]; rfl
              have H1A := hid ha
              have H1B := hid hb
              have H1F := hid hf
              clear ha hb hf
              go_wp2_with fail
              refine (y_live HT.out.zw _ _ HLV.out).mono ?_
              rintro e wx ⟨rfl, rfl⟩
              clear z2 z4
              go_wp2_with fail
              go_region_held3 (fun w' => w'.cell? ⟨Z, 0, none⟩ = some (.pointer (some ⟨B, 0, none⟩)) ∧ w'.cell? ⟨Z, 1, none⟩ = some (.pointer (some ⟨X, 0, none⟩)))
                (first
                  | exact ⟨HT.out.zw.blk.cell 0, HT.out.zw.blk.cell 1⟩
                  | exact ⟨qa.blk.cell 0, qa.blk.cell 1⟩
                  | go_keep)
                (first
                  | (go_at_call 43; refine (z_read (HT.out.zw.drewN 1) HG.out _ a b H1A.out H1B.out).mono ?_; rintro e wa ⟨rfl, qa, ta⟩))
              have HT1 := hid ((HT.out.drewN 1).turn qa ta)
              clear qa ta HT H1A H1B
              go_wp2_with fail
              go_region_held3 (fun w' => w'.cell? ⟨Z, 0, none⟩ = some (.pointer (some ⟨B, 0, none⟩)) ∧ w'.cell? ⟨Z, 1, none⟩ = some (.pointer (some ⟨X, 0, none⟩)))
                (first
                  | exact ⟨HT1.out.zw.blk.cell 0, HT1.out.zw.blk.cell 1⟩
                  | exact ⟨qb.blk.cell 0, qb.blk.cell 1⟩
                  | go_keep)
                (first
                  | (go_at_call 44; refine (z_check (HT1.out.zw.drewN 1) HG.out _ f H1F.out).mono ?_; rintro e wb ⟨rfl, qb, tb⟩))
              have HT2 := hid ((HT1.out.drewN 1).turn qb tb)
              clear qb tb HT1 H1F
              go_wp2_with (first
                | (at_builtin
                   refine wpList_append_lies _ rfl (.tmp 82) (.tmp 84) 24 rfl w.heap.size 3 i1 (.int .i64 0) 1 8 Try.underlying24 J1.out J2.out J3.out J4.out rfl (by decide) _ t _ rfl (HT2.out.v.alloc _) ⟨wb.heap.size, 0, none⟩ 1 1 [.int .i64 a] rfl rfl (World.news_of_block (cs := #[.int .i64 a]) (heap_alloc_new wb _)) (by simp [Value.oneCell']) (by decide) (by unfold maxLen; omega) (by omega) (by have := HT2.out.zw.size; simp; omega) (wb.heap.size + 1) (by simp) ?_
                   intro g1 p1 x1 hown1 hgrow1 hat1 hlt1
                   have Q1 := hid (row_keep HT2.out.v HT2.out.zw.size hgrow1)
                   have Z1 := hid (HT2.out.zw.keepTo Q1.out.1 Q1.out.2 (by decide) (by decide) (by decide))
                   have V1 := hid hown1
                   have O1 := hid (own_tfr HT2.out.o Q1.out.1 (by decide))
                   have E1 := hid (own_tfr HT2.out.e Q1.out.1 (by decide))
                   clear hown1 hgrow1 hat1 hlt1)
                | (at_builtin
                   refine wpList_append_lies _ rfl (.tmp 86) (.tmp 88) 40 rfl w.heap.size 4 i2 (.bool false) 1 1 Try.underlying40 K1.out K2.out K3.out K4.out rfl (by decide) _ t _ rfl (O1.out.alloc _) ⟨x1.heap.size, 0, none⟩ 1 1 [.bool b] rfl rfl (World.news_of_block (cs := #[.bool b]) (heap_alloc_new x1 _)) (by simp [Value.oneCell']) (by decide) (by unfold maxLen; omega) (by omega) (by have := Z1.out.size; simp; omega) (x1.heap.size + 1) (by simp) ?_
                   intro g2 p2 x2 hown2 hgrow2 hat2 hlt2
                   have Q2 := hid (row_keep O1.out Z1.out.size hgrow2)
                   have Z2 := hid (Z1.out.keepTo Q2.out.1 Q2.out.2 (by decide) (by decide) (by decide))
                   have V2 := hid (own_tfr V1.out Q2.out.1 (by decide))
                   have O2 := hid hown2
                   have E2 := hid (own_tfr E1.out Q2.out.1 (by decide))
                   clear hown2 hgrow2 hat2 hlt2)
                | (at_builtin
                   refine wpList_append_lies _ rfl (.tmp 90) (.tmp 92) 69 rfl w.heap.size 25 i3 (.int .i64 0) 1 8 Try.underlying69 M1.out M2.out M3.out M4.out rfl (by decide) _ t _ rfl (E2.out.alloc _) ⟨x2.heap.size, 0, none⟩ 1 1 [.int .i64 f] rfl rfl (World.news_of_block (cs := #[.int .i64 f]) (heap_alloc_new x2 _)) (by simp [Value.oneCell']) (by decide) (by unfold maxLen; omega) (by omega) (by have := Z2.out.size; simp; omega) (x2.heap.size + 1) (by simp) ?_
                   intro g3 p3 x3 hown3 hgrow3 hat3 hlt3
                   have Q3 := hid (row_keep E2.out Z2.out.size hgrow3)
                   have Z3 := hid (Z2.out.keepTo Q3.out.1 Q3.out.2 (by decide) (by decide) (by decide))
                   have V3 := hid (own_tfr V2.out Q3.out.1 (by decide))
                   have O3 := hid (own_tfr O2.out Q3.out.1 (by decide))
                   have E3 := hid hown3
                   clear hown3 hgrow3 hat3 hlt3))
              go_roundw
              case rel => exact ⟨t + 1, by omega, by go_num, ⟨Z3.out, by rw [← rowV_succ HVA.out]; exact V3.out, by rw [← rowB_succ HVB.out]; exact O3.out, by rw [← rowE_succ HVE.out]; exact E3.out⟩⟩
              case measure => simp [intOf]; omega
          · have htE : t = L := by omega
            have hgt : L < t + 1 := by omega
            rw [htE] at HT
            clear htE htL z2
            obtain ⟨sv, hsv⟩ : ∃ sv, u5 = sv := ⟨_, rfl⟩
            obtain ⟨so, hso⟩ : ∃ so, u6 = so := ⟨_, rfl⟩
            obtain ⟨se, hse⟩ : ∃ se, u7 = se := ⟨_, rfl⟩
            rw [hsv, hso, hse] at HT
            rw [hsv, hso, hse]
            clear hsv hso hse
            have z1 := HT.out.zw.blk.cell 1
            simp only [List.getElem?_cons_zero, List.getElem?_cons_succ] at z1
            go_wp2_with fail
            refine (z_len HT.out.zw _ rfl).mono ?_
            rintro e wx ⟨rfl, rfl⟩
            clear z1 z4
            go_wp2_with fail
            have HS0 := hid (swept0 HI.out)
            go_loopw [13] (fun i wr => ∃ (k : Nat) (l' : List (Ver Int)), i = .int .i64 (k : Int) ∧ Hid (Swept c l l' k) ∧ Hid (SwRel w wr Z B X D Y L c l l' sv so se L)) (fun i _ => l.length + 1 - (intOf i).toNat)
            case atStart => exact ⟨0, l, rfl, HS0, HT⟩
            case round =>
              obtain ⟨k, l', rfl, HSW, HR⟩ := hrel
              clear HS0 HT
              have hkl : k ≤ l.length := by have := HSW.out.len; omega
              rcases place_cases (Cel.isSpare c l') l' with hp | ⟨i, hp⟩
              · have HP := hid hp
                have HPS : Hid (decide (0 ≤ place (Cel.isSpare c l') l') = false) := by show _ = _; rw [hp]; rfl
                have HLN : Hid ((l'.length : Int) = (l.length : Int) - (k : Int)) := by show _ = _; have := HSW.out.len; omega
                clear hp
                go_wp2_with fail
                go_region_held3 (fun w' => w'.cell? ⟨Z, 0, none⟩ = some (.pointer (some ⟨B, 0, none⟩)) ∧ w'.cell? ⟨Z, 1, none⟩ = some (.pointer (some ⟨X, 0, none⟩)))
                  (first
                    | exact ⟨HR.out.zw.blk.cell 0, HR.out.zw.blk.cell 1⟩
                    | exact ⟨qa.blk.cell 0, qa.blk.cell 1⟩
                    | go_keep)
                  (first
                    | (go_at_call 48; refine (z_sweep_no (HR.out.zw.drewN 1) HG.out HP.out).mono ?_; rintro e wa ⟨rfl, qa, ta⟩))
                have HR2 := hid ((HR.out.drewN 1).turn qa ta)
                clear qa ta HR
                have b1 : decide (l.length < k) = false := decide_eq_false (by omega)
                have b2 : decide ((l.length : Int) < (k : Int)) = false := decide_eq_false (by omega)
                have b3 : IntKind.i64.wrap ((l.length : Int) - (k : Int)) = (l.length : Int) - (k : Int) := by rw [IntKind.wrap_i64]; omega
                go_wp2_with fail
                go_region_held3 (fun w' => w'.cell? ⟨Z, 0, none⟩ = some (.pointer (some ⟨B, 0, none⟩)) ∧ w'.cell? ⟨Z, 1, none⟩ = some (.pointer (some ⟨X, 0, none⟩)))
                  (first
                    | exact ⟨HR2.out.zw.blk.cell 0, HR2.out.zw.blk.cell 1⟩
                    | exact ⟨qb.blk.cell 0, qb.blk.cell 1⟩
                    | go_keep)
                  (first
                    | (go_at_call 47; refine (z_len (HR2.out.zw.drewN 1) _ HLN.out).mono ?_; rintro e wl ⟨rfl, rfl⟩)
                    | (go_at_call 49; refine (z_spare (HR2.out.zw.drewN 1) HG.out false HPS.out).mono ?_; rintro e wb ⟨rfl, qb, tb⟩))
                have HR3 := hid ((HR2.out.drewN 1).turn qb tb)
                clear qb tb HR2 b3
                go_wp2_with fail
                go_loopw [14] (fun i wr => ∃ q : Nat, q ≤ L ∧ i = .int .i64 ((q : Int) + 1) ∧ Hid (SwRel w wr Z B X D Y L c l l' sv so se L)) (fun i _ => L + 1 - (intOf i).toNat)
                case atStart => exact ⟨0, Nat.zero_le _, rfl, HR3⟩
                case round =>
                  obtain ⟨q, hq, rfl, HQ⟩ := hrel
                  clear HR3
                  have z2 := HQ.out.zw.blk.cell 2
                  have z4 := HQ.out.zw.blk.cell 4
                  simp only [List.getElem?_cons_zero, List.getElem?_cons_succ] at z2 z4
                  by_cases hqL : q < L
                  · obtain ⟨lv, hlv⟩ : ∃ lv, c.live ((q : Int) + 1) = lv := ⟨_, rfl⟩
                    have HLV := hid hlv
                    clear hlv
                    cases lv
                    · go_wp2_with fail
                      refine (y_live HQ.out.zw _ _ HLV.out).mono ?_
                      rintro e wx ⟨rfl, rfl⟩
                      go_wp2_with fail
                      go_roundw
                      case rel => exact ⟨q + 1, by omega, by go_num, HQ⟩
                      case measure => simp [intOf]; omega
                    · obtain ⟨a, ha⟩ : ∃ a, (Cel.lastBy (c.sees ((q : Int) + 1)) l').getD 0 = a := ⟨_, rfl⟩
                      obtain ⟨b, hb⟩ : ∃ b, (Cel.lastBy (c.sees ((q : Int) + 1)) l').isSome = b := ⟨_, rfl⟩
                      obtain ⟨f, hf⟩ : ∃ f : Int, (if Cel.blocked c l' ((q : Int) + 1) then 6 else 0) = f := ⟨_, rfl⟩
                      have e1 : rdV c l ((q : Int) + 1) = a := by unfold rdV; rw [HLV.out, ← ha, HSW.out.read _ HLV.out]; rfl
                      have e2 : rdB c l ((q : Int) + 1) = b := by unfold rdB; rw [HLV.out, ← hb, HSW.out.read _ HLV.out]; rfl
                      have e3 : rdE c l ((q : Int) + 1) = f := by unfold rdE; rw [HLV.out, ← hf, HSW.out.block _ HLV.out]; rfl
                      have H1A := hid ha
                      have H1B := hid hb
                      have H1F := hid hf
                      obtain ⟨g1, p1, rfl, _, _⟩ := HQ.out.v.form (by omega)
                      obtain ⟨g2, p2, rfl, _, _⟩ := HQ.out.o.form (by omega)
                      obtain ⟨g3, p3, rfl, _, _⟩ := HQ.out.e.form (by omega)
                      have X1 : Hid (∀ w', SwRel w w' Z B X D Y L c l l' (.slice (some ⟨g1, 0, none⟩) L p1) (.slice (some ⟨g2, 0, none⟩) L p2) (.slice (some ⟨g3, 0, none⟩) L p3) L → w'.cell? ⟨Z, 0, none⟩ = some (.pointer (some ⟨B, 0, none⟩)) ∧ w'.cell? ⟨Z, 1, none⟩ = some (.pointer (some ⟨X, 0, none⟩)) ∧ w'.cell? ⟨g1, q, none⟩ = some (.int .i64 a) ∧ w'.cell? ⟨g2, q, none⟩ = some (.bool b) ∧ w'.cell? ⟨g3, q, none⟩ = some (.int .i64 f)) := fun w' hh =>
                        ⟨hh.zw.blk.cell 0, hh.zw.blk.cell 1, by rw [← e1]; exact rowV_cell hh.v hqL, by rw [← e2]; exact rowB_cell hh.o hqL, by rw [← e3]; exact rowE_cell hh.e hqL⟩
                      clear ha hb hf e1 e2 e3
                      have hq0 : (0 : Int) ≤ (q : Int) := by omega
                      have hq1 : (q : Int) < (L : Int) := by omega
                      have hwr : IntKind.i64.wrap ((q : Int) + 1 - 1) = (q : Int) := by rw [IntKind.wrap_i64]; omega
                      have hwr2 : IntKind.i64.wrap (q : Int) = (q : Int) := by rw [IntKind.wrap_i64]; omega
                      go_wp2_with fail
                      refine (y_live HQ.out.zw _ _ HLV.out).mono ?_
                      rintro e wx ⟨rfl, rfl⟩
                      clear z2 z4
                      go_wp2_with fail
                      go_region_held3 (fun w' => w'.cell? ⟨Z, 0, none⟩ = some (.pointer (some ⟨B, 0, none⟩)) ∧ w'.cell? ⟨Z, 1, none⟩ = some (.pointer (some ⟨X, 0, none⟩)))
                        (first
                          | exact ⟨HQ.out.zw.blk.cell 0, HQ.out.zw.blk.cell 1⟩
                          | exact ⟨qa.blk.cell 0, qa.blk.cell 1⟩
                          | go_keep)
                        (first
                          | (go_at_call 43; refine (z_read (HQ.out.zw.drewN 1) HG.out _ a b H1A.out H1B.out).mono ?_; rintro e wa ⟨rfl, qa, ta⟩))
                      have HQ1 := hid ((HQ.out.drewN 1).turn qa ta)
                      clear qa ta HQ H1A H1B
                      go_wp2_with fail
                      go_region_held3 (fun w' => w'.cell? ⟨Z, 0, none⟩ = some (.pointer (some ⟨B, 0, none⟩)) ∧ w'.cell? ⟨Z, 1, none⟩ = some (.pointer (some ⟨X, 0, none⟩)) ∧ w'.cell? ⟨g1, q, none⟩ = some (.int .i64 a) ∧ w'.cell? ⟨g2, q, none⟩ = some (.bool b) ∧ w'.cell? ⟨g3, q, none⟩ = some (.int .i64 f))
                        (first
                          | exact X1.out _ (HQ1.out.drewN 1)
                          | exact X1.out _ ((HQ1.out.drewN 1).turn qb tb)
                          | go_keep)
                        (first
                          | (go_at_call 44; refine (z_check (HQ1.out.zw.drewN 1) HG.out _ f H1F.out).mono ?_; rintro e wb ⟨rfl, qb, tb⟩))
                      have HQ2 := hid ((HQ1.out.drewN 1).turn qb tb)
                      clear qb tb HQ1 H1F X1
                      go_wp2_with fail
                      go_roundw
                      case rel => exact ⟨q + 1, by omega, by go_num, HQ2⟩
                      case measure => simp [intOf]; omega
                  · have hgq : L < q + 1 := by omega
                    have z1 := HQ.out.zw.blk.cell 1
                    simp only [List.getElem?_cons_zero, List.getElem?_cons_succ] at z1
                    by_cases hct : 0 < c.count
                    · obtain ⟨ct, hcte⟩ : ∃ ct : Nat, c.count = ct := ⟨_, rfl⟩
                      have HCT : Hid ((c.count : Int) = (ct : Int)) := by show _ = _; rw [hcte]
                      rw [hcte] at hct
                      clear hcte
                      go_wp2_with fail
                      refine (y_count HQ.out.zw _ HCT.out).mono ?_
                      rintro e wx ⟨rfl, rfl⟩
                      go_wp2_with fail
                      refine (known7 _).mono ?_
                      rintro e wx ⟨rfl, hb⟩
                      have HBL := hid (HQ.out.zw.below.trans (hb.mono HQ.out.zw.below.size))
                      clear hb
                      go_wp2_with fail
                      go_ret
                      exact ⟨rfl, HBL.out⟩
                    · have HCT : Hid ((c.count : Int) = 0) := by show _ = _; omega
                      have hle1 : l'.length ≤ 1 := HSW.out.inv.left_one (by omega) HP.out
                      clear hct
                      go_wp2_with fail
                      refine (y_count HQ.out.zw _ HCT.out).mono ?_
                      rintro e wx ⟨rfl, rfl⟩
                      go_wp2_with fail
                      refine (z_len HQ.out.zw _ rfl).mono ?_
                      rintro e wx ⟨rfl, rfl⟩
                      go_wp2_with fail
                      refine (known7 _).mono ?_
                      rintro e wx ⟨rfl, hb⟩
                      have HBL := hid (HQ.out.zw.below.trans (hb.mono HQ.out.zw.below.size))
                      clear hb
                      go_wp2_with fail
                      go_ret
                      exact ⟨rfl, HBL.out⟩
              · have HSW2 := hid (HSW.out.step HG.out hp)
                have hkl2 : k < l.length := by have := HSW2.out.len; omega
                have HP := hid hp
                clear hp
                go_wp2_with fail
                go_region_held3 (fun w' => w'.cell? ⟨Z, 0, none⟩ = some (.pointer (some ⟨B, 0, none⟩)) ∧ w'.cell? ⟨Z, 1, none⟩ = some (.pointer (some ⟨X, 0, none⟩)))
                  (first
                    | exact ⟨HR.out.zw.blk.cell 0, HR.out.zw.blk.cell 1⟩
                    | exact ⟨qa.blk.cell 0, qa.blk.cell 1⟩
                    | go_keep)
                  (first
                    | (go_at_call 48; refine (z_sweep (HR.out.zw.drewN 1) HG.out i HP.out).mono ?_; rintro e wa ⟨rfl, qa, ta⟩))
                have HR2 := hid ((HR.out.drewN 1).turn qa ta)
                clear qa ta HR HP HSW
                go_wp2_with fail
                go_roundw
                case rel => exact ⟨k + 1, _, by go_num, HSW2, HR2⟩
                case measure => simp [intOf]; omega

theorem sweeps7_walk (w : World) (A : Option Addr) (len cap : Nat) (ks ts vs : Nat → Int) (gs : Nat → Bool) (hm : len ≤ maxLen) (hA : ActsAt7 w A len ks ts vs gs) :
    Calls Try.prog 12 #[.slice A len cap] w fun e w' => e = .returned (.bool true) ∧ Below w.heap.size w w' := by
  by_cases h : 10000 < len
  · exact sweeps7_long w A len cap h (by unfold maxLen at hm; omega)
  · exact sweeps7_short w A len cap ks ts vs gs (by omega) hA
end Go.Proofs.Ytdgojfjaooindaa
