/-
  ligaturelaw7's world.alike: the closure that is called for each value; Each over it.
-/
import Derived.Laws.EntriesVeiled
import Derived.Test.YtdgojfjaooindaaRclH
namespace Go.Proofs.Ytdgojfjaooindaa
open Go.RowKit Go.Proofs.Lig

/-- What the closure looks at: the world Z out of its box, and the reference's versions. -/
structure Obs (w : World) (Wb Z B X D Y : Nat) (n : Int) (A : Option Addr) (cap : Nat) (l : List (Ver Int)) : Prop where
  wb : Blk w Wb 61 [.pointer (some ⟨Z, 0, none⟩)]
  z : Blk w Z 68 [.pointer (some ⟨B, 0, none⟩), .pointer (some ⟨X, 0, none⟩), .pointer (some ⟨D, 0, none⟩), .pointer (some ⟨Y, 0, none⟩), .int .i64 n]
  y : Rcl.CelA w Y A cap l
abbrev kgT : List TypeId := [3, 4]
theorem Obs.tfr {w w' : World} {Wb Z B X D Y : Nat} {n : Int} {A : Option Addr} {cap : Nat} {l : List (Ver Int)} (h : Obs w Wb Z B X D Y n A cap l) (hf : TFr kgT w w') : Obs w' Wb Z B X D Y n A cap l :=
  ⟨h.wb.tfr hf (by decide), h.z.tfr hf (by decide), h.y.tfr hf (by decide)⟩
theorem tfr_kg {w w' : World} {K G : Nat} {a b : List Value} (hK : Blk w K 3 a) (hG : Blk w G 4 b) (hf : Fr [K, G] w w') : TFr kgT w w' := .of_fr hf fun k hk => by
  simp only [List.mem_cons, List.mem_nil_iff, or_false] at hk
  rcases hk with rfl | rfl
  · exact ⟨_, _, _, hK, by simp⟩
  · exact ⟨_, _, _, hG, by simp⟩
/-- The number in a cell. -/
def natAt (w : World) (a : Addr) : Nat := match w.cell? a with | some v => (intOf v).toNat | none => 0

theorem natAt_blk {w : World} {K q : Nat} {t : TypeId} (h : Blk w K t [.int .i64 (q : Int)]) : natAt w ⟨K, 0, none⟩ = q := by
  have := h.cell 0
  simp only [List.getElem?_cons_zero] at this
  simp [natAt, this, intOf]

set_option maxRecDepth 100000 in
set_option maxHeartbeats 2000000 in
theorem alike1 (w : World) (K Wb G Z B X D Y : Nat) (n : Int) (A : Option Addr) (cap : Nat) (l : List (Ver Int)) (k j : Nat) (y : Ver Int) (hO : Obs w Wb Z B X D Y n A cap l) (hK : Blk w K 3 [.int .i64 (k : Int)]) (hG : Blk w G 4 [.bool true])
    (hkj : k ≤ j) (hgone : ∀ i z, k ≤ i → i < j → l[i]? = some z → z.gone = true) (hy : l[j]? = some y) (hyg : y.gone = false) :
    Calls Try.prog 73 #[.int .i64 y.v, .pointer (some ⟨K, 0, none⟩), .pointer (some ⟨Wb, 0, none⟩), .pointer (some ⟨G, 0, none⟩)] w fun e w' => (∃ u, e = .returned u) ∧ Blk w' K 3 [.int .i64 ((j + 1 : Nat) : Int)] ∧ Blk w' G 4 [.bool true] ∧ Fr [K, G] w w' := by
  have HO := hid hO
  have HK := hid hK
  have HG := hid hG
  have HGN := hid hgone
  have HY := hid hy
  have HYG := hid hyg
  have hjl := (List.getElem?_eq_some_iff.1 hy).1
  have hln := hO.y.len
  obtain ⟨g, rfl, _⟩ := hO.y.form (by omega)
  clear hO hK hG hgone hy hyg
  go_enter Try.func73, Try.ntmps73
  go_wp2_with fail
  go_loopw [] (fun wr => ∃ q : Nat, k ≤ q ∧ q ≤ j ∧ Hid (Blk wr K 3 [.int .i64 (q : Int)]) ∧ Hid (Fr [K, G] w wr) ∧ Hid (Blk wr G 4 [.bool true])) (fun wr => j - natAt wr ⟨K, 0, none⟩)
  case atStart => exact ⟨k, Nat.le_refl _, hkj, HK, Fr.refl _ _, HG⟩
  case round =>
    obtain ⟨q, hkq, hqj, HQ, HF, HGQ⟩ := hrel
    have HOQ := hid (HO.out.tfr (tfr_kg HK.out HG.out HF.out))
    have k0 := HQ.out.cell 0
    have kf := HQ.out.frozen 0
    have kl := HQ.out.lt
    have w0 := HOQ.out.wb.cell 0
    have z3 := HOQ.out.z.cell 3
    have y0 := HOQ.out.y.blk.cell 0
    simp only [List.getElem?_cons_zero, List.getElem?_cons_succ] at k0 w0 z3 y0
    by_cases hlt : q < j
    · obtain ⟨z, hz⟩ : ∃ z, l[q]? = some z := ⟨_, List.getElem?_eq_getElem (by omega)⟩
      obtain ⟨_, _, c2⟩ := Rcl.row_ver HOQ.out.y.own hz
      rw [HGN.out q z hkq hlt hz] at c2
      have hq1 : (q : Int) < (l.length : Int) := by omega
      clear hz
      go_wp2_with fail
      go_quiet (fail)
      go_wp2_with fail
      have e1 : ((q + 1 : Nat) : Int) = (q : Int) + 1 := by omega
      have hne : G ≠ K := fun e => by subst e; have := (HQ.out.inj HGQ.out).1; cases this
      have HK2 : Hid (∀ nq, Blk ((wr.drewN nq).setCell ⟨K, 0, none⟩ (.int .i64 ((q : Int) + 1))) K 3 [.int .i64 ((q + 1 : Nat) : Int)]) := fun nq => by rw [e1]; exact (HQ.out.drewN nq).set_ 0 _
      have HF2 : Hid (∀ nq, Fr [K, G] w ((wr.drewN nq).setCell ⟨K, 0, none⟩ (.int .i64 ((q : Int) + 1)))) := fun nq => (HF.out.drewN nq).setCell (.inl (by simp)) _
      have HG2 : Hid (∀ nq, Blk ((wr.drewN nq).setCell ⟨K, 0, none⟩ (.int .i64 ((q : Int) + 1))) G 4 [.bool true]) := fun nq => (HGQ.out.drewN nq).far hne _
      clear e1 hne
      go_roundw
      case rel => exact ⟨q + 1, by omega, by omega, HK2.out _, HF2.out _, HG2.out _⟩
      case measure =>
        rw [natAt_blk (HK2.out _), natAt_blk HQ.out]
        omega
    · obtain rfl : q = j := by omega
      obtain ⟨_, c1, c2⟩ := Rcl.row_ver HOQ.out.y.own HY.out
      rw [HYG.out] at c2
      have hq1 : (q : Int) < (l.length : Int) := by omega
      have g0 := HGQ.out.cell 0
      have gf := HGQ.out.frozen 0
      have gl := HGQ.out.lt
      simp only [List.getElem?_cons_zero] at g0
      go_wp2_with fail
      go_quiet (fail)
      go_wp2_with fail
      go_region
      generalize hw4 : World.setCell (World.drewN wr _) ⟨G, 0, none⟩ (.bool true) = w4
      have hne : K ≠ G := fun e => by subst e; have := (HQ.out.inj HGQ.out).1; cases this
      have B4 : Blk w4 K 3 [.int .i64 (q : Int)] := by rw [← hw4]; exact (HQ.out.drewN _).far hne _
      have HB4 := hid B4
      have HG4 : Hid (Blk w4 G 4 [.bool true]) := by show Blk _ _ _ _; rw [← hw4]; exact (HGQ.out.drewN _).set_ 0 _
      have HF4 : Hid (Fr [K, G] w w4) := by show Fr _ _ _; rw [← hw4]; exact (HF.out.drewN _).setCell (.inl (by simp)) _
      have a0 := B4.cell 0
      have a1 := B4.frozen 0
      simp only [List.getElem?_cons_zero] at a0
      clear hw4 B4 k0 kf kl w0 z3 y0 c1 c2 g0 gf gl
      go_wp2_with fail
      go_end0
      have e1 : ((q + 1 : Nat) : Int) = (q : Int) + 1 := by omega
      rw [e1]
      exact ⟨⟨_, rfl⟩, HB4.out.set_ 0 _, HG4.out.far (Ne.symm hne) _, HF4.out.setCell (.inl (by simp)) _⟩

set_option maxRecDepth 100000 in
set_option maxHeartbeats 2000000 in
theorem each_alike (w : World) (K Wb G Z B X D Y : Nat) (n : Int) (A A1 : Option Addr) (cap cap1 : Nat) (l : List (Ver Int)) (h : CelA w X A1 cap1 l) (hO : Obs w Wb Z B X D Y n A cap l) (hK : Blk w K 3 [.int .i64 0]) (hG : Blk w G 4 [.bool true]) :
    Calls Try.prog 51 #[.pointer (some ⟨X, 0, none⟩), .func (.func 73) #[] #[.pointer (some ⟨K, 0, none⟩), .pointer (some ⟨Wb, 0, none⟩), .pointer (some ⟨G, 0, none⟩)]] w fun e w' => (∃ u, e = .returned u) ∧
      (∃ k : Nat, k ≤ l.length ∧ Blk w' K 3 [.int .i64 (k : Int)] ∧ ∀ i z, k ≤ i → l[i]? = some z → z.gone = true) ∧ Blk w' G 4 [.bool true] ∧ Fr [K, G] w w' := by
  have hx := h.blk.cell 0
  have hln := h.len
  simp only [List.getElem?_cons_zero] at hx
  have HH := hid h
  have HO := hid hO
  have HK := hid hK
  have HG := hid hG
  clear h hO hK hG
  go_enter Try.func51, Try.ntmps51
  go_wp2_with fail
  go_loopw [13] (fun i wr => ∃ j k : Nat, j ≤ l.length ∧ i = .int .i64 (j : Int) ∧ k ≤ j ∧ Hid (∀ i z, k ≤ i → i < j → l[i]? = some z → z.gone = true) ∧ Hid (Blk wr K 3 [.int .i64 (k : Int)]) ∧ Hid (Blk wr G 4 [.bool true]) ∧ Hid (Fr [K, G] w wr)) (fun i _ => l.length - (intOf i).toNat)
  case atStart => exact ⟨0, 0, Nat.zero_le _, rfl, Nat.le_refl _, fun i z h1 h2 _ => by omega, HK, HG, Fr.refl _ _⟩
  case round =>
    obtain ⟨j, k, hj, rfl, hkj, HGN, HKR, HGR, HFR⟩ := hrel
    have HT := hid (tfr_kg HK.out HG.out HFR.out)
    by_cases hlt : j < l.length
    · obtain ⟨y, hy⟩ : ∃ y, l[j]? = some y := ⟨_, List.getElem?_eq_getElem hlt⟩
      have HA := hid (HH.out.tfr HT.out (by decide))
      obtain ⟨g, rfl, hgl⟩ := HA.out.form (by omega)
      obtain ⟨c0, c1, c2⟩ := row_ver HA.out.own hy
      have HY := hid hy
      have bl := Blk.new wr 95 [.int .i64 y.who, .int .i64 y.v, .bool y.gone]
      have HB1 : Hid (Below wr.heap.size wr (wr.alloc (.cells #[.int .i64 y.who, .int .i64 y.v, .bool y.gone] 95))) := (Below.refl _ _).alloc (Nat.le_refl _) _
      have HKL := HKR.out.lt
      have HGL := HGR.out.lt
      have HO1 := hid ((HO.out.tfr HT.out).tfr (.of_below HB1.out))
      have HK1 := hid (HKR.out.below HB1.out HKL)
      have HG1 := hid (HGR.out.below HB1.out HGL)
      have HF1 : Hid (Fr [K, G] w (wr.alloc (.cells #[.int .i64 y.who, .int .i64 y.v, .bool y.gone] 95))) := HFR.out.alloc _
      clear hy HKL HGL bl
      cases hyg : y.gone
      · rw [hyg] at c2 HO1 HK1 HG1 HF1
        have HC := hid (alike1 _ K Wb G Z B X D Y n A cap l k j y HO1.out HK1.out HG1.out hkj HGN.out HY.out hyg)
        clear hyg HB1 HO1 HK1 HG1
        go_wp2_with fail
        refine HC.out.mono ?_
        rintro e wa ⟨⟨_, rfl⟩, qk, qg, qf⟩
        have QK := hid qk
        have QG := hid qg
        have QF := hid qf
        clear qk qg qf c0 c1 c2 HC
        go_wp2_with fail
        go_roundw
        case rel => exact ⟨j + 1, j + 1, by omega, by go_num, Nat.le_refl _, fun i z h1 h2 _ => by omega, QK, QG, HF1.out.trans_same QF.out⟩
        case measure => simp [intOf]; omega
      · rw [hyg] at c2 HO1 HK1 HG1 HF1
        have HYG := hid hyg
        clear hyg HB1 HO1
        go_wp2_with fail
        go_roundw
        case rel =>
          refine ⟨j + 1, k, by omega, by go_num, by omega, fun i z h1 h2 hz => ?_, HK1, HG1, HF1⟩
          rcases Nat.lt_succ_iff_lt_or_eq.1 h2 with h3 | h3
          · exact HGN.out i z h1 h3 hz
          · subst h3
            rw [HY.out] at hz
            cases hz
            exact HYG.out
        case measure => simp [intOf]; omega
    · have hge : l.length ≤ j := by omega
      go_wp2_with fail
      go_end0
      exact ⟨⟨_, rfl⟩, ⟨k, by omega, HKR.out, fun i z h1 hz => HGN.out i z h1 (by have := (List.getElem?_eq_some_iff.1 hz).1; omega) hz⟩, HGR.out, HFR.out⟩
end Go.Proofs.Ytdgojfjaooindaa
