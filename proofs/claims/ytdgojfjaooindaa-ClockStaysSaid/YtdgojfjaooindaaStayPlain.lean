/-
  What a transaction sees stays, whatever acts of others do: as plain data. No program in sight.
-/
import Derived.Test.YtdgojfjaooindaaPlain
namespace Go.Proofs.Lig
namespace Clk

theorem tx?_put {c : Clk} {t : Int} {x y : Tx} {n : Nat} (h : c.tx? t = some y) (b : Int) : (c.put t x n).tx? b = if b = t then some x else c.tx? b := by
  obtain ⟨h1, h2⟩ := tx?_le h
  unfold tx? put
  by_cases hb : 1 ≤ b
  · rw [if_pos hb, if_pos hb]
    by_cases e : b = t
    · subst e
      rw [if_pos rfl, List.getElem?_set_self (by omega)]
    · rw [if_neg e, List.getElem?_set_ne (by omega)]
  · rw [if_neg hb, if_neg hb, if_neg (by omega)]
theorem tx?_began (c : Clk) (b : Int) : c.began.tx? b = if b = (c.l.length : Int) + 1 then some ⟨c.n, 0, true⟩ else c.tx? b := by
  unfold tx? began
  by_cases hb : 1 ≤ b
  · rw [if_pos hb, if_pos hb]
    by_cases e : b = (c.l.length : Int) + 1
    · rw [if_pos e, List.getElem?_append_right (by omega)]
      have : b.toNat - 1 - c.l.length = 0 := by omega
      rw [this]; rfl
    · rw [if_neg e]
      by_cases hlt : b.toNat - 1 < c.l.length
      · rw [List.getElem?_append_left hlt]
      · rw [List.getElem?_append_right (by omega), List.getElem?_eq_none (by simp; omega), List.getElem?_eq_none (by omega)]
  · rw [if_neg hb, if_neg hb, if_neg (by omega)]

/-- T lives on, with the mark M; it sees of others what S says. -/
structure Stay (T : Int) (M : Nat) (S : Int → Bool) (c : Clk) : Prop where
  good : c.Good
  me : ∃ x, c.tx? T = some x ∧ x.live = true ∧ x.mark = M
  le : M ≤ c.n
  sees : ∀ b, b ≠ T → c.sees T b = S b

theorem sees_of {c : Clk} {T : Int} {x : Tx} (h : c.tx? T = some x) {b : Int} (hb : b ≠ T) : c.sees T b = (match c.tx? b with | some y => seesTx x y | none => false) := by
  unfold Clk.sees
  rw [h]
  cases hy : c.tx? b with
  | none => rfl
  | some y => simp [Ne.symm hb]

theorem Stay.begin_ {T : Int} {M : Nat} {S : Int → Bool} {c : Clk} (h : Stay T M S c) : Stay T M S c.began := by
  obtain ⟨x, hx, hl, hm⟩ := h.me
  have hle := tx?_le hx
  have hx' : c.began.tx? T = some x := by rw [tx?_began, if_neg (by omega)]; exact hx
  refine ⟨h.good.began, ⟨x, hx', hl, hm⟩, h.le, fun b hb => ?_⟩
  rw [← h.sees b hb, sees_of hx' hb, sees_of hx hb, tx?_began]
  by_cases e : b = (c.l.length : Int) + 1
  · rw [if_pos e]
    have : c.tx? b = none := by rw [tx?_none_iff]; omega
    rw [this]
    simp [seesTx]
  · rw [if_neg e]
theorem Stay.commit_ {T : Int} {M : Nat} {S : Int → Bool} {c : Clk} (h : Stay T M S c) {t : Int} (ht : t ≠ T) (hlv : c.live t = true) : Stay T M S (c.committed t) := by
  obtain ⟨x, hx, hl, hm⟩ := h.me
  obtain ⟨y, hy, hyl⟩ : ∃ y, c.tx? t = some y ∧ y.live = true := by
    unfold Clk.live at hlv
    split at hlv
    · rename_i y hy; exact ⟨y, hy, hlv⟩
    · cases hlv
  have hc : c.committed t = c.put t ⟨y.mark, c.n + 1, false⟩ (c.n + 1) := by unfold Clk.committed; rw [hy]
  have hg := h.good.committed t
  rw [hc] at hg ⊢
  have hx' : (c.put t ⟨y.mark, c.n + 1, false⟩ (c.n + 1)).tx? T = some x := by rw [tx?_put hy, if_neg (Ne.symm ht)]; exact hx
  refine ⟨hg, ⟨x, hx', hl, hm⟩, Nat.le_succ_of_le h.le, fun b hb => ?_⟩
  rw [← h.sees b hb, sees_of hx' hb, sees_of hx hb, tx?_put hy]
  by_cases e : b = t
  · rw [if_pos e, e, hy]
    have h0 := h.good.bare y (tx?_mem hy) hyl
    have h1 : ¬ (c.n + 1 ≤ x.mark) := by rw [hm]; have := h.le; omega
    simp [seesTx, h0, h1]
  · rw [if_neg e]
theorem Stay.abort_ {T : Int} {M : Nat} {S : Int → Bool} {c : Clk} (h : Stay T M S c) {t : Int} (ht : t ≠ T) (hlv : c.live t = true) : Stay T M S (c.dropped t) := by
  obtain ⟨x, hx, hl, hm⟩ := h.me
  obtain ⟨y, hy, hyl⟩ : ∃ y, c.tx? t = some y ∧ y.live = true := by
    unfold Clk.live at hlv
    split at hlv
    · rename_i y hy; exact ⟨y, hy, hlv⟩
    · cases hlv
  have hc : c.dropped t = c.put t ⟨y.mark, y.as, false⟩ c.n := by unfold Clk.dropped; rw [hy]
  have hg := h.good.dropped t
  rw [hc] at hg ⊢
  have hx' : (c.put t ⟨y.mark, y.as, false⟩ c.n).tx? T = some x := by rw [tx?_put hy, if_neg (Ne.symm ht)]; exact hx
  refine ⟨hg, ⟨x, hx', hl, hm⟩, h.le, fun b hb => ?_⟩
  rw [← h.sees b hb, sees_of hx' hb, sees_of hx hb, tx?_put hy]
  by_cases e : b = t
  · rw [if_pos e, e, hy]
    simp [seesTx]
  · rw [if_neg e]
theorem stay_start {c : Clk} (h : c.Good) : Stay ((c.l.length : Int) + 1) c.n (fun b => c.began.sees ((c.l.length : Int) + 1) b) c.began :=
  ⟨h.began, ⟨⟨c.n, 0, true⟩, by rw [tx?_began, if_pos rfl], rfl, rfl⟩, Nat.le_refl _, fun _ _ => rfl⟩
/-- Of what begins behind it it sees nothing. -/
theorem start_later (c : Clk) (b : Int) (hb : (c.l.length : Int) + 1 < b) : c.began.sees ((c.l.length : Int) + 1) b = false := by
  unfold Clk.sees
  have : c.began.tx? b = none := by rw [tx?_none_iff, length_began]; omega
  rw [this]
  cases c.began.tx? ((c.l.length : Int) + 1) <;> rfl
theorem Stay.live {T : Int} {M : Nat} {S : Int → Bool} {c : Clk} (h : Stay T M S c) : c.live T = true := by
  obtain ⟨x, hx, hl, _⟩ := h.me
  unfold Clk.live
  rw [hx]
  exact hl
end Clk
end Go.Proofs.Lig
