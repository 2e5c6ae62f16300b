/-
  Contracts of the reference's clock, more: Clashes, Settled.
-/
import Derived.Test.YtdgojfjaooindaaRefC
namespace Go.Proofs.Ytdgojfjaooindaa
open Go.RowKit Go.Proofs.Lig

theorem r_clashes_any (w : World) (B : Nat) (A : Option Addr) (cap : Nat) (c : Clk) (t b : Int) (h : RefA w B A cap c) :
    Calls Try.prog 35 #[.pointer (some ⟨B, 0, none⟩), .int .i64 t, .int .i64 b] w fun e w' => e = .returned (.bool (c.clashes t b)) ∧ Below w.heap.size w w' := by
  cases hx : c.tx? t with
  | none =>
    have HE : Hid (c.clashes t b = false) := by unfold Clk.clashes; rw [hx]; rfl
    have C1 := hid (r_is_none w B A cap c t h hx)
    clear h hx
    go_enter Try.func35, Try.ntmps35
    go_wp2_with fail
    refine C1.out.mono ?_
    rintro e w' ⟨rfl, rfl⟩
    go_wp2
    go_ret
    exact ⟨by rw [HE.out]; rfl, Below.refl _ _⟩
  | some x =>
    have C1 := hid (r_is_some w B A cap c t x h hx)
    cases hy : c.tx? b with
    | none =>
      have HE : Hid (c.clashes t b = false) := by unfold Clk.clashes; rw [hx, hy]; rfl
      have C2 := hid (r_is_none w B A cap c b h hy)
      clear h hx hy
      go_enter Try.func35, Try.ntmps35
      go_wp2_with fail
      refine C1.out.mono ?_
      rintro e w' ⟨rfl, rfl⟩
      go_wp2_with fail
      refine C2.out.mono ?_
      rintro e w' ⟨rfl, rfl⟩
      go_wp2
      go_ret
      exact ⟨by rw [HE.out]; rfl, Below.refl _ _⟩
    | some y =>
      have C2 := hid (r_is_some w B A cap c b y h hy)
      have HE : Hid (c.clashes t b = (!decide (t = b) && (y.live || decide (x.mark < y.as)))) := by unfold Clk.clashes Clk.clashTx; rw [hx, hy]; rfl
      obtain ⟨g, rfl⟩ := h.isRow hx
      obtain ⟨d0, _, _⟩ := h.tx (Clk.tx?_eq hx)
      obtain ⟨_, e1, e2⟩ := h.tx (Clk.tx?_eq hy)
      obtain ⟨h1, h2⟩ := Clk.tx?_le hx
      obtain ⟨h1', h2'⟩ := Clk.tx?_le hy
      have h3 := h.len
      have hc := h.blk.cell 0
      simp only [List.getElem?_cons_zero] at hc
      have g1 : 0 ≤ t - 1 := by omega
      have g2 : t - 1 < c.l.length := by omega
      have g3 : 0 ≤ b - 1 := by omega
      have g4 : b - 1 < c.l.length := by omega
      clear h hx hy
      by_cases ht : t = b
      · have ht1 : decide (t = b) = true := by simp [ht]
        rw [ht1] at HE
        subst ht
        clear ht1
        go_enter Try.func35, Try.ntmps35
        go_wp2_with fail
        refine C1.out.mono ?_
        rintro e w' ⟨rfl, rfl⟩
        go_wp2_with fail
        refine C2.out.mono ?_
        rintro e w' ⟨rfl, rfl⟩
        go_wp2
        go_ret
        exact ⟨by rw [HE.out]; simp, Below.refl _ _⟩
      · have ht1 : decide (t = b) = false := by simp [ht]
        have ht2 : (t == b) = false := by simp [ht]
        rw [ht1] at HE
        clear ht1 ht
        cases hl : y.live
        all_goals
          rw [hl] at HE e2
          clear hl
          go_enter Try.func35, Try.ntmps35
          go_wp2_with fail
          refine C1.out.mono ?_
          rintro e w' ⟨rfl, rfl⟩
          go_wp2_with fail
          refine C2.out.mono ?_
          rintro e w' ⟨rfl, rfl⟩
          go_wp2
          go_quiet (fail)
          go_wp2
          go_ret
          exact ⟨by rw [HE.out]; simp, below_drewN _ _⟩

theorem r_settled_not (w : World) (B : Nat) (A : Option Addr) (cap : Nat) (c : Clk) (b : Int) (h : RefA w B A cap c) (hn : ∀ y, c.tx? b = some y → y.as = 0) :
    Calls Try.prog 33 #[.pointer (some ⟨B, 0, none⟩), .int .i64 b] w fun e w' => e = .returned (.bool false) ∧ w = w' := by
  cases hy : c.tx? b with
  | none =>
    have C1 := hid (r_is_none w B A cap c b h hy)
    clear h hy hn
    go_enter Try.func33, Try.ntmps33
    go_wp2_with fail
    refine C1.out.mono ?_
    rintro e w' ⟨rfl, rfl⟩
    go_wp2
    go_ret
    exact ⟨rfl, rfl⟩
  | some y =>
    have C1 := hid (r_is_some w B A cap c b y h hy)
    obtain ⟨g, rfl⟩ := h.isRow hy
    obtain ⟨_, e1, _⟩ := h.tx (Clk.tx?_eq hy)
    rw [hn y hy] at e1
    obtain ⟨h1', h2'⟩ := Clk.tx?_le hy
    have h3 := h.len
    have hc := h.blk.cell 0
    simp only [List.getElem?_cons_zero] at hc
    clear h hy hn
    go_enter Try.func33, Try.ntmps33
    go_wp2_with fail
    refine C1.out.mono ?_
    rintro e w' ⟨rfl, rfl⟩
    go_wp2
    go_ret
    exact ⟨rfl, rfl⟩

set_option maxHeartbeats 800000 in
theorem r_settled_some (w : World) (B : Nat) (A : Option Addr) (cap : Nat) (c : Clk) (b : Int) (y : Tx) (h : RefA w B A cap c) (hy : c.tx? b = some y) (ha : 0 < y.as) :
    Calls Try.prog 33 #[.pointer (some ⟨B, 0, none⟩), .int .i64 b] w fun e w' => e = .returned (.bool (!(c.l.any (Clk.blocks y)))) ∧ Below w.heap.size w w' := by
  have C1 := hid (r_is_some w B A cap c b y h hy)
  obtain ⟨g, rfl⟩ := h.isRow hy
  obtain ⟨_, e1, _⟩ := h.tx (Clk.tx?_eq hy)
  obtain ⟨h1', h2'⟩ := Clk.tx?_le hy
  have h3 := h.len
  have hc := h.blk.cell 0
  simp only [List.getElem?_cons_zero] at hc
  have g3 : 0 ≤ b - 1 := by omega
  have g4 : b - 1 < c.l.length := by omega
  have hne : ((y.as : Int) == 0) = false := by simp; omega
  have HB := hid h.blk.lt
  have H := hid h
  have HY := hid hy
  have hg0 : g < w.heap.size := by
    obtain ⟨g', e, hlt⟩ := h.form (by omega)
    injection e with e
    injection e with e
    subst e
    exact hlt
  clear h hy
  go_enter Try.func33, Try.ntmps33
  go_wp2_with fail
  refine C1.out.mono ?_
  rintro e w' ⟨rfl, rfl⟩
  go_wp2
  go_loopw [5] (fun i wr => ∃ k : Nat, k ≤ c.l.length ∧ Hid ((c.l.take k).any (Clk.blocks y) = false) ∧ i = .int .i64 (k : Int) ∧ Below w.heap.size w wr) (fun i _ => c.l.length - (intOf i).toNat)
  case atStart => exact ⟨0, Nat.zero_le _, rfl, rfl, Below.refl _ _⟩
  case round =>
    obtain ⟨k, hk, HA, rfl, hb⟩ := hrel
    have k0 := (hb.cell (p := ⟨B, 0, none⟩) HB.out).trans hc
    by_cases hlt : k < c.l.length
    · obtain ⟨x, hx⟩ : ∃ x, c.l[k]? = some x := ⟨_, List.getElem?_eq_getElem hlt⟩
      obtain ⟨c0, _, c2⟩ := H.out.tx hx
      have d0 := (hb.cell (p := ⟨g, k * 3, none⟩) hg0).trans c0
      have d2 := (hb.cell (p := ⟨g, k * 3 + 2, none⟩) hg0).trans c2
      have d3 := (hb.cell (p := ⟨g, (b.toNat - 1) * 3 + 1, none⟩) hg0).trans e1
      have HT := hid (Clk.any_take c.l k x y hx)
      have HBB : Hid (Clk.blocks y x = (x.live && decide (x.mark < y.as))) := rfl
      have HX := hid (List.mem_of_getElem? hx)
      have g5 : (0 : Int) ≤ (k : Int) := by omega
      have g6 : (k : Int) < (c.l.length : Int) := by omega
      clear hx c0 c2 hc e1
      cases hl : x.live
      · rw [hl] at d2 HBB
        clear hl
        go_wp2
        go_quiet (fail)
        go_wp2
        go_roundw
        case rel => exact ⟨k + 1, by omega, by show _ = _; rw [HT.out, HA.out, HBB.out]; rfl, by go_num, bdrewN hb _⟩
        case measure => simp [intOf]; omega
      · rw [hl] at d2 HBB
        clear hl
        cases hm : decide (x.mark < y.as)
        · have HB2 := hid (HBB.out.trans (by rw [hm]; rfl) : Clk.blocks y x = false)
          go_wp2
          go_quiet (fail)
          go_wp2
          go_roundw
          case rel => exact ⟨k + 1, by omega, by show _ = _; rw [HT.out, HA.out, HB2.out]; rfl, by go_num, bdrewN hb _⟩
          case measure => simp [intOf]; omega
        · have HB2 := hid (HBB.out.trans (by rw [hm]; rfl) : Clk.blocks y x = true)
          have HF : Hid (c.l.any (Clk.blocks y) = true) := by
            show _ = _
            rw [List.any_eq_true]
            exact ⟨x, HX.out, HB2.out⟩
          go_wp2
          go_quiet (fail)
          go_wp2
          go_ret
          exact ⟨by rw [HF.out]; rfl, bdrewN hb _⟩
    · have hk2 : k = c.l.length := by omega
      have HT : Hid (c.l.any (Clk.blocks y) = false) := by have := HA.out; rw [hk2, List.take_length] at this; exact this
      clear hk2 hc
      go_wp2
      go_ret
      exact ⟨by rw [HT.out]; rfl, hb⟩

theorem r_settled_any (w : World) (B : Nat) (A : Option Addr) (cap : Nat) (c : Clk) (b : Int) (h : RefA w B A cap c) :
    Calls Try.prog 33 #[.pointer (some ⟨B, 0, none⟩), .int .i64 b] w fun e w' => e = .returned (.bool (c.settled b)) ∧ Below w.heap.size w w' := by
  by_cases hn : ∀ y, c.tx? b = some y → y.as = 0
  · have : c.settled b = false := by
      unfold Clk.settled
      split
      · rename_i y hy; rw [hn y hy]; rfl
      · rfl
    rw [this]
    exact (r_settled_not w B A cap c b h hn).mono fun _ _ ⟨he, hw⟩ => ⟨he, hw ▸ Below.refl _ _⟩
  · obtain ⟨y, hy, ha⟩ : ∃ y, c.tx? b = some y ∧ 0 < y.as := by
      cases hy : c.tx? b with
      | none => exact absurd (fun y h' => by rw [hy] at h'; cases h') hn
      | some y =>
        refine ⟨y, rfl, ?_⟩
        rcases Nat.eq_zero_or_pos y.as with h0 | h0
        · exact absurd (fun y' h' => by rw [hy] at h'; cases h'; exact h0) hn
        · exact h0
    have h2 : c.settled b = !(c.l.any (Clk.blocks y)) := by unfold Clk.settled; rw [hy]; simp [ha]
    rw [h2]
    exact r_settled_some w B A cap c b y h hy ha
end Go.Proofs.Ytdgojfjaooindaa
