/-
  The reference's cell: Undo, spare, Spare, Sweep.
-/
import Derived.Test.YtdgojfjaooindaaRclE
import Derived.Test.YtdgojfjaooindaaCelInv
namespace Go.Proofs.Ytdgojfjaooindaa.Rcl
open Go.RowKit Go.Proofs.Lig

/-- Nothing ahead of place k is of this writer. -/
def NoWho (l : List (Ver Int)) (t : Int) (k : Nat) : Prop := ∀ (j : Nat) (z : Ver Int), j < k → l[j]? = some z → (z.who == t) = false

set_option maxRecDepth 100000 in
set_option maxHeartbeats 1000000 in
theorem r_undo (w : World) (X : Nat) (A : Option Addr) (cap : Nat) (l : List (Ver Int)) (t : Int) (h : CelA w X A cap l) (hn : l.length ≤ 1000000) (hu : ∀ i y, l[i]? = some y → y.who = t → l.eraseIdx i = Cel.undone l t) :
    Calls Try.prog 63 #[.pointer (some ⟨X, 0, none⟩), .int .i64 t] w fun e w' => (∃ u, e = .returned u) ∧
      ∃ A' cap', CelA w' X A' cap' (Cel.undone l t) ∧ Sub (X :: (Value.slice A' (Cel.undone l t).length cap').ownBlock.toList) (X :: (Value.slice A l.length cap).ownBlock.toList) w.heap.size ∧ Fr [X] w w' := by
  have hx := h.blk.cell 0
  have hln := h.len
  simp only [List.getElem?_cons_zero] at hx
  have HH := hid h
  have HN := hid hn
  have HU := hid hu
  clear h hn hu
  go_enter Try.func63, Try.ntmps63
  go_wp2_with fail
  go_loopw [4] (fun i wr => ∃ k : Nat, k ≤ l.length ∧ i = .int .i64 (k : Int) ∧ Hid (NoWho l t k) ∧ w = wr) (fun i _ => l.length - (intOf i).toNat)
  case atStart => exact ⟨0, Nat.zero_le _, rfl, fun j y hj _ => by omega, rfl⟩
  case round =>
    obtain ⟨k, hk, rfl, HNO, rfl⟩ := hrel
    by_cases hlt : k < l.length
    · obtain ⟨y, hy⟩ : ∃ y, l[k]? = some y := ⟨_, List.getElem?_eq_getElem hlt⟩
      obtain ⟨g, rfl, hgl⟩ := HH.out.form (by omega)
      obtain ⟨c0, _, _⟩ := row_ver HH.out.own hy
      have HY := hid hy
      clear hy
      cases hw : y.who == t
      · have HW := hid hw
        go_wp2_with fail
        go_roundw
        case rel =>
          refine ⟨k + 1, by omega, by go_num, fun j z hj hz => ?_, by trivial⟩
          rcases Nat.lt_succ_iff_lt_or_eq.1 hj with h1 | h1
          · exact HNO.out j z h1 hz
          · subst h1
            rw [HY.out] at hz
            cases hz
            exact HW.out
        case measure => simp [intOf]; omega
      · have HW := hid hw
        have HC := hid (r_without w g cap l k HH.out.own hlt HN.out)
        go_wp2_with fail
        refine HC.out.mono ?_
        rintro e w2 ⟨A', cap', rfl, ho, hb⟩
        have hX := HH.out.blk.lt
        have B2 := HH.out.blk.below hb hX
        have d0 := B2.cell 0
        have e0 := B2.frozen 0
        simp only [List.getElem?_cons_zero] at d0
        have HB2 := hid B2
        have HO := hid ho
        have HB := hid hb
        clear B2 ho hb HC c0 hx
        go_wp2_with fail
        refine bodyPost_ret (results_none rfl _ _ _) rfl ?_
        have he : l.eraseIdx k = Cel.undone l t := HU.out k y HY.out (by simpa using HW.out)
        have hlen : (Cel.undone l t).length = l.length - 1 := by rw [← he, List.length_eraseIdx, if_pos hlt]
        have ho0 : w2.ownsRow 0 109 3 (.slice A' (l.length - 1) cap') (l.length - 1) (encVers (l.eraseIdx k)) := by
          refine ⟨HO.out.1, ?_⟩
          rcases HO.out.2 with h2 | ⟨g, cap, cur, hv, _, r⟩
          · exact .inl h2
          · exact .inr ⟨g, cap, cur, hv, Nat.zero_le _, r⟩
        have hne := own_ne ho0 HB2.out (by decide)
        have hset := HB2.out.set_ 0 (.slice A' (l.length - 1) cap')
        simp only [List.set_cons_zero] at hset
        refine ⟨⟨_, rfl⟩, A', cap', ⟨by rw [hlen]; exact hset, by rw [hlen, ← he]; exact own_far ho0 hne _⟩, ?_, ((Fr.refl _ w).trans_same (Fr.of_below HB.out (Nat.le_refl _))).setCell (.inl (by simp)) _⟩
        intro q hq
        rcases List.mem_cons.1 hq with rfl | hq
        · exact .inl (by simp)
        · rw [hlen] at hq
          exact .inr (HO.out.lt q (by simpa using hq)).1
    · have hge : l.length ≤ k := by omega
      go_wp2_with fail
      go_end0
      have hall : Cel.undone l t = l := undone_self fun j z hz => HNO.out j z (by have := (List.getElem?_eq_some_iff.1 hz).1; omega) hz
      exact ⟨⟨_, rfl⟩, A, cap, by rw [hall]; exact HH.out, by rw [hall]; exact Sub.refl _ _, Fr.refl _ _⟩

theorem rspare_later {c : Clk} {l : List (Ver Int)} {k m : Nat} {y z : Ver Int} (hm : k + 1 ≤ m) (hz : l[m]? = some z) (hs : c.settled z.who = true) : rspare c l k y = true := by
  have : ((l.drop (k + 1)).any fun z => c.settled z.who) = true := by
    refine List.any_eq_true.2 ⟨z, ?_, hs⟩
    refine List.mem_of_getElem? (i := m - (k + 1)) ?_
    rw [List.getElem?_drop, show k + 1 + (m - (k + 1)) = m by omega, hz]
  simp [rspare, this]
theorem rspare_no {c : Clk} {l : List (Ver Int)} {k : Nat} {y : Ver Int} (h1 : (k == 0 && (y.gone && c.settled y.who)) = false) (h2 : ∀ (j : Nat) (z : Ver Int), k + 1 ≤ j → j < l.length → l[j]? = some z → c.settled z.who = false) : rspare c l k y = false := by
  have : ((l.drop (k + 1)).any fun z => c.settled z.who) = false := by
    rw [List.any_eq_false]
    intro z hz
    obtain ⟨j, hj⟩ := List.getElem?_of_mem hz
    rw [List.getElem?_drop] at hj
    rw [h2 _ z (by omega) (List.getElem?_eq_some_iff.1 hj).1 hj]
    simp
  simp [rspare, this, h1]

set_option maxRecDepth 100000 in
set_option maxHeartbeats 2000000 in
theorem r_spare (w w0 : World) (N X : Nat) (A : Option Addr) (cap : Nat) (l : List (Ver Int)) (B : Nat) (c : Clk) (h : CelA w X A cap l) (hc : RefN N w0 w B c) (p : Ver Int → Bool) (hp : ∀ i y, l[i]? = some y → p y = rspare c l i y) :
    Calls Try.prog 77 #[.pointer (some ⟨X, 0, none⟩), .pointer (some ⟨B, 0, none⟩)] w fun e w' => e = .returned (.int .i64 (place p l)) ∧ RefN N w0 w' B c ∧ TFr refT w w' := by
  have hln := h.len
  have HH := hid h
  have HC := hid hc
  have HP := hid hp
  clear h hc hp
  go_enter Try.func77, Try.ntmps77
  go_wp2_with fail
  go_loopw [5] (fun i wr => ∃ k : Nat, k ≤ l.length ∧ i = .int .i64 (k : Int) ∧ Hid (∀ (j : Nat) (z : Ver Int), j < k → l[j]? = some z → p z = false) ∧ Hid (RefN N w0 wr B c) ∧ Hid (TFr refT w wr)) (fun i _ => l.length - (intOf i).toNat)
  case atStart => exact ⟨0, Nat.zero_le _, rfl, fun j y hj _ => by omega, HC, TFr.refl _ _⟩
  case round =>
    obtain ⟨k, hk, rfl, HNO, HR, HT⟩ := hrel
    have HA := hid (HH.out.tfr HT.out (by decide))
    have hx := HA.out.blk.cell 0
    simp only [List.getElem?_cons_zero] at hx
    by_cases hlt : k < l.length
    · obtain ⟨y, hy⟩ : ∃ y, l[k]? = some y := ⟨_, List.getElem?_eq_getElem hlt⟩
      obtain ⟨g, rfl, hgl⟩ := HA.out.form (by omega)
      obtain ⟨c0, _, c2⟩ := row_ver HA.out.own hy
      have HY := hid hy
      clear hy
      have hways : (k = 0 ∧ y.gone = true ∧ c.settled y.who = true) ∨ (k = 0 ∧ y.gone = true ∧ c.settled y.who = false) ∨ (k = 0 ∧ y.gone = false) ∨ 0 < k := by
        by_cases h0 : k = 0
        · cases hg : y.gone
          · exact .inr (.inr (.inl ⟨h0, rfl⟩))
          · cases hs : c.settled y.who
            · exact .inr (.inl ⟨h0, rfl, rfl⟩)
            · exact .inl ⟨h0, rfl, rfl⟩
        · exact .inr (.inr (.inr (by omega)))
      rcases hways with ⟨h0, hgn, hst⟩ | hways
      · have HS := hid (r_settled_N HR.out y.who true hst)
        have HE : Hid (place p l = (k : Int)) := place_hit HY.out (by rw [HP.out k y HY.out]; simp [rspare, hgn, hst, h0]) HNO.out
        have hk0 : ((k : Int) == 0) = true := by simp [h0]
        rw [hgn] at c2
        clear hgn hst h0
        go_wp2_with fail
        refine HS.out.mono ?_
        rintro e wa ⟨rfl, q1, q2⟩
        have Q1 := hid q1
        have Q2 := hid (HT.out.trans q2)
        clear q1 q2 c0 c2 hx
        go_wp2_with fail
        go_ret
        exact ⟨by rw [HE.out]; rfl, Q1.out, Q2.out⟩
      · rcases hways with ⟨h0, hgn, hst⟩ | ⟨h0, hgn⟩ | hpos
        · have HS := hid (r_settled_N HR.out y.who false hst)
          have HF : Hid ((k == 0 && (y.gone && c.settled y.who)) = false) := by show _ = _; simp [hst]
          have hk0 : ((k : Int) == 0) = true := by simp [h0]
          rw [hgn] at c2
          clear hgn hst h0
          go_wp2_with fail
          refine HS.out.mono ?_
          rintro e wa ⟨rfl, q1, q2⟩
          have Q1 := hid q1
          have Q2 := hid (HT.out.trans q2)
          clear q1 q2 c0 c2 hx HR HT HA hk0
          go_wp2_with fail
          go_loopw [6] (fun i wr => ∃ m : Nat, k + 1 ≤ m ∧ m ≤ l.length ∧ i = .int .i64 (m : Int) ∧ Hid (∀ (j : Nat) (z : Ver Int), k + 1 ≤ j → j < m → l[j]? = some z → c.settled z.who = false) ∧ Hid (RefN N w0 wr B c) ∧ Hid (TFr refT w wr)) (fun i _ => l.length - (intOf i).toNat)
          case atStart => exact ⟨k + 1, Nat.le_refl _, by omega, by go_num, fun j y h1 h2 _ => by omega, Q1, Q2⟩
          case round =>
            obtain ⟨m, hkm, hm, rfl, HM, HR, HT⟩ := hrel
            clear Q1 Q2
            have HA := hid (HH.out.tfr HT.out (by decide))
            have hx := HA.out.blk.cell 0
            simp only [List.getElem?_cons_zero] at hx
            by_cases hml : m < l.length
            · obtain ⟨z, hz⟩ : ∃ z, l[m]? = some z := ⟨_, List.getElem?_eq_getElem hml⟩
              obtain ⟨c0, _, _⟩ := row_ver HA.out.own hz
              have HZ := hid hz
              clear hz
              cases hs : c.settled z.who
              · have HS := hid (r_settled_N HR.out z.who false hs)
                have HSV := hid hs
                clear hs
                go_wp2_with fail
                refine HS.out.mono ?_
                rintro e wb ⟨rfl, q1, q2⟩
                have Q1 := hid q1
                have Q2 := hid (HT.out.trans q2)
                clear q1 q2 c0 hx HS HR HT HA
                go_wp2_with fail
                go_roundw
                case rel =>
                  refine ⟨m + 1, by omega, by omega, by go_num, fun j u h1 h2 hu => ?_, Q1, Q2⟩
                  rcases Nat.lt_succ_iff_lt_or_eq.1 h2 with h3 | h3
                  · exact HM.out j u h1 h3 hu
                  · subst h3
                    rw [HZ.out] at hu
                    cases hu
                    exact HSV.out
                case measure => simp [intOf]; omega
              · have HS := hid (r_settled_N HR.out z.who true hs)
                have HE : Hid (place p l = (k : Int)) := place_hit HY.out (by rw [HP.out k y HY.out]; exact rspare_later hkm HZ.out hs) HNO.out
                clear hs
                go_wp2_with fail
                refine HS.out.mono ?_
                rintro e wb ⟨rfl, q1, q2⟩
                have Q1 := hid q1
                have Q2 := hid (HT.out.trans q2)
                clear q1 q2 c0 hx HS HR HT HA
                go_wp2_with fail
                go_ret
                exact ⟨by rw [HE.out]; rfl, Q1.out, Q2.out⟩
            · have hge : l.length ≤ m := by omega
              have HPF : Hid (p y = false) := by
                show _ = _
                rw [HP.out k y HY.out]
                exact rspare_no HF.out fun j u h1 h2 hu => HM.out j u h1 (by omega) hu
              go_wp2_with fail
              go_roundw
              case rel =>
                refine ⟨k + 1, by omega, by go_num, fun j u h1 hu => ?_, HR, HT⟩
                rcases Nat.lt_succ_iff_lt_or_eq.1 h1 with h3 | h3
                · exact HNO.out j u h3 hu
                · subst h3
                  rw [HY.out] at hu
                  cases hu
                  exact HPF.out
              case measure => simp [intOf]; omega
        · have HF : Hid ((k == 0 && (y.gone && c.settled y.who)) = false) := by show _ = _; simp [hgn]
          have hk0 : ((k : Int) == 0) = true := by simp [h0]
          have Q1 := HR
          have Q2 := HT
          rw [hgn] at c2
          clear hgn h0 HR HT HA
          go_wp2_with fail
          clear c0 c2 hx hk0
          go_loopw [6] (fun i wr => ∃ m : Nat, k + 1 ≤ m ∧ m ≤ l.length ∧ i = .int .i64 (m : Int) ∧ Hid (∀ (j : Nat) (z : Ver Int), k + 1 ≤ j → j < m → l[j]? = some z → c.settled z.who = false) ∧ Hid (RefN N w0 wr B c) ∧ Hid (TFr refT w wr)) (fun i _ => l.length - (intOf i).toNat)
          case atStart => exact ⟨k + 1, Nat.le_refl _, by omega, by go_num, fun j y h1 h2 _ => by omega, Q1, Q2⟩
          case round =>
            obtain ⟨m, hkm, hm, rfl, HM, HR, HT⟩ := hrel
            clear Q1 Q2
            have HA := hid (HH.out.tfr HT.out (by decide))
            have hx := HA.out.blk.cell 0
            simp only [List.getElem?_cons_zero] at hx
            by_cases hml : m < l.length
            · obtain ⟨z, hz⟩ : ∃ z, l[m]? = some z := ⟨_, List.getElem?_eq_getElem hml⟩
              obtain ⟨c0, _, _⟩ := row_ver HA.out.own hz
              have HZ := hid hz
              clear hz
              cases hs : c.settled z.who
              · have HS := hid (r_settled_N HR.out z.who false hs)
                have HSV := hid hs
                clear hs
                go_wp2_with fail
                refine HS.out.mono ?_
                rintro e wb ⟨rfl, q1, q2⟩
                have Q1 := hid q1
                have Q2 := hid (HT.out.trans q2)
                clear q1 q2 c0 hx HS HR HT HA
                go_wp2_with fail
                go_roundw
                case rel =>
                  refine ⟨m + 1, by omega, by omega, by go_num, fun j u h1 h2 hu => ?_, Q1, Q2⟩
                  rcases Nat.lt_succ_iff_lt_or_eq.1 h2 with h3 | h3
                  · exact HM.out j u h1 h3 hu
                  · subst h3
                    rw [HZ.out] at hu
                    cases hu
                    exact HSV.out
                case measure => simp [intOf]; omega
              · have HS := hid (r_settled_N HR.out z.who true hs)
                have HE : Hid (place p l = (k : Int)) := place_hit HY.out (by rw [HP.out k y HY.out]; exact rspare_later hkm HZ.out hs) HNO.out
                clear hs
                go_wp2_with fail
                refine HS.out.mono ?_
                rintro e wb ⟨rfl, q1, q2⟩
                have Q1 := hid q1
                have Q2 := hid (HT.out.trans q2)
                clear q1 q2 c0 hx HS HR HT HA
                go_wp2_with fail
                go_ret
                exact ⟨by rw [HE.out]; rfl, Q1.out, Q2.out⟩
            · have hge : l.length ≤ m := by omega
              have HPF : Hid (p y = false) := by
                show _ = _
                rw [HP.out k y HY.out]
                exact rspare_no HF.out fun j u h1 h2 hu => HM.out j u h1 (by omega) hu
              go_wp2_with fail
              go_roundw
              case rel =>
                refine ⟨k + 1, by omega, by go_num, fun j u h1 hu => ?_, HR, HT⟩
                rcases Nat.lt_succ_iff_lt_or_eq.1 h1 with h3 | h3
                · exact HNO.out j u h3 hu
                · subst h3
                  rw [HY.out] at hu
                  cases hu
                  exact HPF.out
              case measure => simp [intOf]; omega
        · have HF : Hid ((k == 0 && (y.gone && c.settled y.who)) = false) := by show _ = _; simp; intro h; omega
          have hk0 : ((k : Int) == 0) = false := by simp; omega
          have Q1 := HR
          have Q2 := HT
          clear hpos HR HT HA
          go_wp2_with fail
          clear c0 c2 hx hk0
          go_loopw [6] (fun i wr => ∃ m : Nat, k + 1 ≤ m ∧ m ≤ l.length ∧ i = .int .i64 (m : Int) ∧ Hid (∀ (j : Nat) (z : Ver Int), k + 1 ≤ j → j < m → l[j]? = some z → c.settled z.who = false) ∧ Hid (RefN N w0 wr B c) ∧ Hid (TFr refT w wr)) (fun i _ => l.length - (intOf i).toNat)
          case atStart => exact ⟨k + 1, Nat.le_refl _, by omega, by go_num, fun j y h1 h2 _ => by omega, Q1, Q2⟩
          case round =>
            obtain ⟨m, hkm, hm, rfl, HM, HR, HT⟩ := hrel
            clear Q1 Q2
            have HA := hid (HH.out.tfr HT.out (by decide))
            have hx := HA.out.blk.cell 0
            simp only [List.getElem?_cons_zero] at hx
            by_cases hml : m < l.length
            · obtain ⟨z, hz⟩ : ∃ z, l[m]? = some z := ⟨_, List.getElem?_eq_getElem hml⟩
              obtain ⟨c0, _, _⟩ := row_ver HA.out.own hz
              have HZ := hid hz
              clear hz
              cases hs : c.settled z.who
              · have HS := hid (r_settled_N HR.out z.who false hs)
                have HSV := hid hs
                clear hs
                go_wp2_with fail
                refine HS.out.mono ?_
                rintro e wb ⟨rfl, q1, q2⟩
                have Q1 := hid q1
                have Q2 := hid (HT.out.trans q2)
                clear q1 q2 c0 hx HS HR HT HA
                go_wp2_with fail
                go_roundw
                case rel =>
                  refine ⟨m + 1, by omega, by omega, by go_num, fun j u h1 h2 hu => ?_, Q1, Q2⟩
                  rcases Nat.lt_succ_iff_lt_or_eq.1 h2 with h3 | h3
                  · exact HM.out j u h1 h3 hu
                  · subst h3
                    rw [HZ.out] at hu
                    cases hu
                    exact HSV.out
                case measure => simp [intOf]; omega
              · have HS := hid (r_settled_N HR.out z.who true hs)
                have HE : Hid (place p l = (k : Int)) := place_hit HY.out (by rw [HP.out k y HY.out]; exact rspare_later hkm HZ.out hs) HNO.out
                clear hs
                go_wp2_with fail
                refine HS.out.mono ?_
                rintro e wb ⟨rfl, q1, q2⟩
                have Q1 := hid q1
                have Q2 := hid (HT.out.trans q2)
                clear q1 q2 c0 hx HS HR HT HA
                go_wp2_with fail
                go_ret
                exact ⟨by rw [HE.out]; rfl, Q1.out, Q2.out⟩
            · have hge : l.length ≤ m := by omega
              have HPF : Hid (p y = false) := by
                show _ = _
                rw [HP.out k y HY.out]
                exact rspare_no HF.out fun j u h1 h2 hu => HM.out j u h1 (by omega) hu
              go_wp2_with fail
              go_roundw
              case rel =>
                refine ⟨k + 1, by omega, by go_num, fun j u h1 hu => ?_, HR, HT⟩
                rcases Nat.lt_succ_iff_lt_or_eq.1 h1 with h3 | h3
                · exact HNO.out j u h3 hu
                · subst h3
                  rw [HY.out] at hu
                  cases hu
                  exact HPF.out
              case measure => simp [intOf]; omega
    · have hge : l.length ≤ k := by omega
      have HE : Hid (place p l = -1) := place_miss fun j z hz => HNO.out j z (by have := (List.getElem?_eq_some_iff.1 hz).1; omega) hz
      go_wp2_with fail
      go_ret
      exact ⟨by rw [HE.out]; rfl, HR.out, HT.out⟩
end Go.Proofs.Ytdgojfjaooindaa.Rcl
