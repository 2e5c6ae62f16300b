/-
  Contracts of the reference's clock, more: Aborted, Sees, Clashes, Settled.
-/
import Derived.Test.YtdgojfjaooindaaRefB
namespace Go.Proofs.Ytdgojfjaooindaa
open Go.RowKit Go.Proofs.Lig

theorem r_aborted_any (w : World) (B : Nat) (A : Option Addr) (cap : Nat) (c : Clk) (t : Int) (h : RefA w B A cap c) :
    Calls Try.prog 32 #[.pointer (some ⟨B, 0, none⟩), .int .i64 t] w fun e w' => e = .returned (.bool (c.aborted t)) ∧ w = w' := by
  cases hx : c.tx? t with
  | none =>
    have HE : Hid (c.aborted t = false) := by unfold Clk.aborted; rw [hx]; rfl
    have C1 := hid (r_is_none w B A cap c t h hx)
    clear h hx
    go_enter Try.func32, Try.ntmps32
    go_wp2_with fail
    refine C1.out.mono ?_
    rintro e w' ⟨rfl, rfl⟩
    go_wp2
    go_ret
    exact ⟨by rw [HE.out]; rfl, rfl⟩
  | some x =>
    obtain ⟨g, rfl⟩ := h.isRow hx
    obtain ⟨_, d1, d2⟩ := h.tx (Clk.tx?_eq hx)
    obtain ⟨h1, h2⟩ := Clk.tx?_le hx
    have h3 := h.len
    have hc := h.blk.cell 0
    simp only [List.getElem?_cons_zero] at hc
    have HE : Hid (c.aborted t = (!x.live && (x.as == 0))) := by unfold Clk.aborted; rw [hx]; rfl
    have C1 := hid (r_is_some w B _ cap c t x h hx)
    clear h hx
    cases hl : x.live
    · rw [hl] at d2 HE
      cases ha : (x.as == 0)
      · have ha' : ((x.as : Int) == 0) = false := by rw [beq_eq_false_iff_ne] at ha ⊢; omega
        rw [ha] at HE
        clear ha hl
        go_enter Try.func32, Try.ntmps32
        go_wp2_with fail
        refine C1.out.mono ?_
        rintro e w' ⟨rfl, rfl⟩
        go_wp2
        go_ret
        exact ⟨by rw [HE.out]; rfl, rfl⟩
      · have ha' : ((x.as : Int) == 0) = true := by rw [beq_iff_eq] at ha ⊢; omega
        rw [ha] at HE
        clear ha hl
        go_enter Try.func32, Try.ntmps32
        go_wp2_with fail
        refine C1.out.mono ?_
        rintro e w' ⟨rfl, rfl⟩
        go_wp2
        go_ret
        exact ⟨by rw [HE.out]; simp, rfl⟩
    · rw [hl] at d2 HE
      clear hl
      go_enter Try.func32, Try.ntmps32
      go_wp2_with fail
      refine C1.out.mono ?_
      rintro e w' ⟨rfl, rfl⟩
      go_wp2
      go_ret
      exact ⟨by rw [HE.out]; rfl, rfl⟩

theorem r_sees_any (w : World) (B : Nat) (A : Option Addr) (cap : Nat) (c : Clk) (t b : Int) (h : RefA w B A cap c) :
    Calls Try.prog 34 #[.pointer (some ⟨B, 0, none⟩), .int .i64 t, .int .i64 b] w fun e w' => e = .returned (.bool (c.sees t b)) ∧ w = w' := by
  cases hx : c.tx? t with
  | none =>
    have HE : Hid (c.sees t b = false) := by unfold Clk.sees; rw [hx]; rfl
    have C1 := hid (r_is_none w B A cap c t h hx)
    clear h hx
    go_enter Try.func34, Try.ntmps34
    go_wp2_with fail
    refine C1.out.mono ?_
    rintro e w' ⟨rfl, rfl⟩
    go_wp2
    go_ret
    exact ⟨by rw [HE.out]; rfl, rfl⟩
  | some x =>
    have C1 := hid (r_is_some w B A cap c t x h hx)
    cases hy : c.tx? b with
    | none =>
      have HE : Hid (c.sees t b = false) := by unfold Clk.sees; rw [hx, hy]; rfl
      have C2 := hid (r_is_none w B A cap c b h hy)
      clear h hx hy
      go_enter Try.func34, Try.ntmps34
      go_wp2_with fail
      refine C1.out.mono ?_
      rintro e w' ⟨rfl, rfl⟩
      go_wp2_with fail
      refine C2.out.mono ?_
      rintro e w' ⟨rfl, rfl⟩
      go_wp2
      go_ret
      exact ⟨by rw [HE.out]; rfl, rfl⟩
    | some y =>
      have C2 := hid (r_is_some w B A cap c b y h hy)
      have HE : Hid (c.sees t b = (decide (t = b) || (decide (0 < y.as) && decide (y.as ≤ x.mark)))) := by unfold Clk.sees Clk.seesTx; rw [hx, hy]; rfl
      obtain ⟨g, rfl⟩ := h.isRow hx
      obtain ⟨d0, _, _⟩ := h.tx (Clk.tx?_eq hx)
      obtain ⟨_, e1, _⟩ := h.tx (Clk.tx?_eq hy)
      obtain ⟨h1, h2⟩ := Clk.tx?_le hx
      obtain ⟨h1', h2'⟩ := Clk.tx?_le hy
      have h3 := h.len
      have hc := h.blk.cell 0
      simp only [List.getElem?_cons_zero] at hc
      clear h hx hy
      by_cases ht : t = b
      · have ht1 : decide (t = b) = true := by simp [ht]
        rw [ht1] at HE
        subst ht
        clear ht1
        go_enter Try.func34, Try.ntmps34
        go_wp2_with fail
        refine C1.out.mono ?_
        rintro e w' ⟨rfl, rfl⟩
        go_wp2_with fail
        refine C2.out.mono ?_
        rintro e w' ⟨rfl, rfl⟩
        go_wp2
        go_ret
        exact ⟨by rw [HE.out]; simp, rfl⟩
      · have ht1 : decide (t = b) = false := by simp [ht]
        have ht2 : (t == b) = false := by simp [ht]
        rw [ht1] at HE
        clear ht1 ht
        cases ha : decide (0 < y.as)
        · rw [ha] at HE
          have ha2 : ¬ (0 : Int) < (y.as : Int) := by simp at ha; omega
          clear ha
          go_enter Try.func34, Try.ntmps34
          go_wp2_with fail
          refine C1.out.mono ?_
          rintro e w' ⟨rfl, rfl⟩
          go_wp2_with fail
          refine C2.out.mono ?_
          rintro e w' ⟨rfl, rfl⟩
          go_wp2
          go_ret
          exact ⟨by rw [HE.out]; simp; try omega, rfl⟩
        · rw [ha] at HE
          have ha2 : (0 : Int) < (y.as : Int) := by simp at ha; omega
          clear ha
          go_enter Try.func34, Try.ntmps34
          go_wp2_with fail
          refine C1.out.mono ?_
          rintro e w' ⟨rfl, rfl⟩
          go_wp2_with fail
          refine C2.out.mono ?_
          rintro e w' ⟨rfl, rfl⟩
          go_wp2
          go_ret
          exact ⟨by rw [HE.out]; simp; try omega, rfl⟩
end Go.Proofs.Ytdgojfjaooindaa
