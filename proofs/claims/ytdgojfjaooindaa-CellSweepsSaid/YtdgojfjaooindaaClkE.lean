/-
  Contracts of package clock's functions, more: Settled.
-/
import Derived.Test.YtdgojfjaooindaaClkD
namespace Go.Proofs.Ytdgojfjaooindaa
open Go.RowKit Go.Proofs.Lig

theorem settled_none (w : World) (B : Nat) (A : Option Addr) (cap : Nat) (c : Clk) (b : Int) (h : ClkA w B A cap c) (hx : c.tx? b = none) :
    Calls Try.prog 21 #[.pointer (some ⟨B, 0, none⟩), .int .i64 b] w fun e w' => e = .returned (.bool false) ∧ Below w.heap.size w w' := by
  have C1 := hid (at_none w B A cap c b h hx)
  clear h hx
  go_enter Try.func21, Try.ntmps21
  go_wp2_with fail
  refine C1.out.mono ?_
  rintro e w' ⟨rfl, rfl⟩
  go_wp2
  go_ret
  exact ⟨rfl, Below.refl _ _⟩

theorem settled_not (w : World) (B : Nat) (A : Option Addr) (cap : Nat) (c : Clk) (b : Int) (y : Tx) (h : ClkA w B A cap c) (hy : c.tx? b = some y) (hs : (stateOf y != 1) = true) :
    Calls Try.prog 21 #[.pointer (some ⟨B, 0, none⟩), .int .i64 b] w fun e w' => e = .returned (.bool false) ∧ Below w.heap.size w w' := by
  obtain ⟨g, rfl⟩ := h.some hy
  obtain ⟨ds, _, da⟩ := h.tx (Clk.tx?_eq hy)
  have C1 := hid (at_some w B g cap c b y h hy)
  clear h hy
  go_enter Try.func21, Try.ntmps21
  go_wp2_with fail
  refine C1.out.mono ?_
  rintro e w' ⟨rfl, rfl⟩
  go_wp2
  go_ret
  exact ⟨rfl, Below.refl _ _⟩

set_option maxHeartbeats 800000 in
theorem settled_some (w : World) (B : Nat) (A : Option Addr) (cap : Nat) (c : Clk) (b : Int) (y : Tx) (h : ClkA w B A cap c) (hy : c.tx? b = some y) (hs : (stateOf y != 1) = false) :
    Calls Try.prog 21 #[.pointer (some ⟨B, 0, none⟩), .int .i64 b] w fun e w' => e = .returned (.bool (!(c.l.any (Clk.blocks y)))) ∧ Below w.heap.size w w' := by
  have h3 := h.len
  have hc := h.blk.cell 0
  simp only [List.getElem?_cons_zero] at hc
  obtain ⟨g, rfl⟩ := h.some hy
  have hg0 : g < w.heap.size := by
    obtain ⟨q1, q2⟩ := Clk.tx?_le hy
    obtain ⟨cur, hh⟩ := h.rowg (by omega)
    exact (Array.getElem?_eq_some_iff.1 hh).1
  obtain ⟨ds, _, da⟩ := h.tx (Clk.tx?_eq hy)
  have C1 := hid (at_some w B g cap c b y h hy)
  have H := hid h
  clear h hy
  go_enter Try.func21, Try.ntmps21
  go_wp2_with fail
  refine C1.out.mono ?_
  rintro e w' ⟨rfl, rfl⟩
  go_wp2
  go_loopw [25] (fun i wr => ∃ k : Nat, k ≤ c.l.length ∧ (c.l.take k).any (Clk.blocks y) = false ∧ i = .int .i64 (k : Int) ∧ Below w.heap.size w wr) (fun i _ => c.l.length - (intOf i).toNat)
  case atStart => exact ⟨0, Nat.zero_le _, rfl, rfl, Below.refl _ _⟩
  case round =>
    obtain ⟨k, hk, hany, rfl, hb⟩ := hrel
    have HA := hid hany
    clear hany
    by_cases hlt : k < c.l.length
    · obtain ⟨x, hx⟩ : ∃ x, c.l[k]? = some x := ⟨_, List.getElem?_eq_getElem hlt⟩
      obtain ⟨c0, c1, c2⟩ := H.out.tx hx
      have d0 := (hb.cell (p := ⟨g, k * 3, none⟩) hg0).trans c0
      have d1 := (hb.cell (p := ⟨g, k * 3 + 1, none⟩) hg0).trans c1
      have d2 := (hb.cell (p := ⟨g, k * 3 + 2, none⟩) hg0).trans c2
      have d3 := (hb.cell (p := ⟨g, (b.toNat - 1) * 3 + 2, none⟩) hg0).trans da
      have hgr : g < wr.heap.size := Nat.lt_of_lt_of_le hg0 hb.size
      have d4 := (World.cell?_alloc_lt wr (.cells #[.int .i64 (stateOf x), .int .i64 (x.mark : Int), .int .i64 (x.as : Int)] 79) ⟨g, (b.toNat - 1) * 3 + 2, none⟩ hgr).trans d3
      have HT := hid (Clk.any_take c.l k x y hx)
      have hbb : Clk.blocks y x = (x.live && decide (x.mark < y.as)) := rfl
      have hst := state_eq x
      have hsz := hb.size
      have HX := hid (List.mem_of_getElem? hx)
      clear hx c0 c1 c2 hc da ds
      cases hl : x.live
      · rw [hl] at hst hbb
        have HB := hid hbb
        clear hl hbb
        go_wp2_with fail
        go_quiet (fail)
        go_wp2
        go_roundw
        case rel => exact ⟨k + 1, by omega, by rw [HT.out, HA.out, HB.out]; rfl, by go_num, bdrewN (hb.alloc hb.size _) _⟩
        case measure => simp [intOf]; omega
      · rw [hl] at hst hbb
        have HB := hid hbb
        clear hl hbb
        cases hm : decide (x.mark < y.as)
        · have HB2 := hid (HB.out.trans (by rw [hm]; rfl) : Clk.blocks y x = false)
          go_wp2_with fail
          go_quiet (fail)
          go_wp2
          go_roundw
          case rel => exact ⟨k + 1, by omega, by rw [HT.out, HA.out, HB2.out]; rfl, by go_num, bdrewN (hb.alloc hb.size _) _⟩
          case measure => simp [intOf]; omega
        · have HB2 := hid (HB.out.trans (by rw [hm]; rfl) : Clk.blocks y x = true)
          have HF : Hid (c.l.any (Clk.blocks y) = true) := by
            show _ = _
            rw [List.any_eq_true]
            exact ⟨x, HX.out, HB2.out⟩
          go_wp2_with fail
          go_quiet (fail)
          go_wp2
          go_ret
          exact ⟨by rw [HF.out]; rfl, bdrewN (hb.alloc hb.size _) _⟩
    · obtain rfl : k = c.l.length := by omega
      have HT : Hid (c.l.any (Clk.blocks y) = false) := by have := HA.out; rwa [List.take_length] at this
      go_wp2
      go_ret
      exact ⟨by rw [HT.out]; rfl, hb⟩

theorem settled_any (w : World) (B : Nat) (A : Option Addr) (cap : Nat) (c : Clk) (b : Int) (h : ClkA w B A cap c) (hg : c.Good) :
    Calls Try.prog 21 #[.pointer (some ⟨B, 0, none⟩), .int .i64 b] w fun e w' => e = .returned (.bool (c.settled b)) ∧ Below w.heap.size w w' := by
  cases hy : c.tx? b with
  | none =>
    have : c.settled b = false := by unfold Clk.settled; rw [hy]
    rw [this]
    exact settled_none w B A cap c b h hy
  | some y =>
    have h1 := state_one (hg.bare y (Clk.tx?_mem hy))
    have h2 : c.settled b = ((stateOf y == 1) && !(c.l.any (Clk.blocks y))) := by unfold Clk.settled; rw [hy, h1]
    cases hs : stateOf y == 1
    · rw [hs] at h2
      rw [h2]
      exact settled_not w B A cap c b y h hy (by unfold bne; rw [hs]; rfl)
    · rw [hs] at h2
      rw [h2]
      exact settled_some w B A cap c b y h hy (by unfold bne; rw [hs]; rfl)
end Go.Proofs.Ytdgojfjaooindaa
