/-
  The reference's clock (ligatureref6) in memory, and contracts of its functions: is, Count, Live, Begin, Commit, Abort.
-/
import Derived.Test.YtdgojfjaooindaaClkF
namespace Go.Proofs.Ytdgojfjaooindaa
open Go.RowKit Go.Proofs.Lig

def encR (x : Tx) : List Value := [.int .i64 (x.mark : Int), .int .i64 (x.as : Int), .bool x.live]
def encRs (l : List Tx) : List Value := l.flatMap encR

/-- The reference's clock c lies in block B; its transactions lie in the row of A. -/
structure RefA (w : World) (B : Nat) (A : Option Addr) (cap : Nat) (c : Clk) : Prop where
  blk : Blk w B 36 [.slice A c.l.length cap, .int .i64 (c.n : Int)]
  own : w.ownsRow 0 84 3 (.slice A c.l.length cap) c.l.length (encRs c.l)

theorem RefA.drewN {w : World} {B : Nat} {A : Option Addr} {cap : Nat} {c : Clk} (h : RefA w B A cap c) (n : Nat) : RefA (w.drewN n) B A cap c := ⟨h.blk, h.own⟩
theorem RefA.form {w : World} {B : Nat} {A : Option Addr} {cap : Nat} {c : Clk} (h : RefA w B A cap c) (hn : 0 < c.l.length) : ∃ g, A = some ⟨g, 0, none⟩ ∧ g < w.heap.size := by
  obtain ⟨g, cap', hv, _, hlt⟩ := h.own.form hn
  injection hv with e1 _ _
  exact ⟨g, e1, hlt⟩
theorem RefA.len {w : World} {B : Nat} {A : Option Addr} {cap : Nat} {c : Clk} (h : RefA w B A cap c) : (c.l.length : Int) ≤ 9223372036854775807 := by
  rcases h.own.2 with ⟨_, h0⟩ | ⟨g, cap', cur, hv, _, _, h1, h2, _⟩
  · omega
  · unfold maxLen at h2; omega
theorem RefA.isRow {w : World} {B : Nat} {A : Option Addr} {cap : Nat} {c : Clk} (h : RefA w B A cap c) {t : Int} {x : Tx} (hx : c.tx? t = some x) : ∃ g, A = some ⟨g, 0, none⟩ := by
  obtain ⟨h1, h2⟩ := Clk.tx?_le hx
  obtain ⟨g, e, _⟩ := h.form (by omega)
  exact ⟨g, e⟩
theorem encRs_cons (x : Tx) (l : List Tx) : encRs (x :: l) = encR x ++ encRs l := rfl
theorem encRs_append (l : List Tx) (x : Tx) : encRs (l ++ [x]) = encRs l ++ encR x := by simp [encRs]
theorem encRs_len (l : List Tx) : (encRs l).length = l.length * 3 := by
  induction l with
  | nil => rfl
  | cons x l ih => rw [encRs_cons, List.length_append, ih]; simp [encR]; omega
theorem encRs_get (l : List Tx) (i : Nat) (x : Tx) (h : l[i]? = some x) : (encRs l)[i * 3]? = some (.int .i64 (x.mark : Int)) ∧ (encRs l)[i * 3 + 1]? = some (.int .i64 (x.as : Int)) ∧ (encRs l)[i * 3 + 2]? = some (.bool x.live) := by
  induction l generalizing i with
  | nil => simp at h
  | cons y l ih =>
    cases i with
    | zero => simp at h; subst h; exact ⟨rfl, rfl, rfl⟩
    | succ i =>
      have := ih i (by simpa using h)
      have e : ∀ j, (encRs (y :: l))[(i + 1) * 3 + j]? = (encRs l)[i * 3 + j]? := fun j => by
        show (encR y ++ encRs l)[_]? = _
        rw [List.getElem?_append_right (by simp [encR]; omega)]
        congr 1
        simp [encR]; omega
      exact ⟨(e 0).trans this.1, (e 1).trans this.2.1, (e 2).trans this.2.2⟩
theorem RefA.tx {w : World} {B g : Nat} {cap : Nat} {c : Clk} (h : RefA w B (some ⟨g, 0, none⟩) cap c) {i : Nat} {x : Tx} (hx : c.l[i]? = some x) :
    w.cell? ⟨g, i * 3, none⟩ = some (.int .i64 (x.mark : Int)) ∧ w.cell? ⟨g, i * 3 + 1, none⟩ = some (.int .i64 (x.as : Int)) ∧ w.cell? ⟨g, i * 3 + 2, none⟩ = some (.bool x.live) := by
  have hi := (List.getElem?_eq_some_iff.1 hx).1
  obtain ⟨a, b, d⟩ := encRs_get c.l i x hx
  exact ⟨(h.own.cellAt _ (by omega)).trans a, (h.own.cellAt _ (by omega)).trans b, (h.own.cellAt _ (by omega)).trans d⟩
theorem encRs_set (l : List Tx) (i : Nat) (x : Tx) (a : Nat) (lv : Bool) (h : l[i]? = some x) :
    encRs (l.set i ⟨x.mark, a, lv⟩) = ((encRs l).set (i * 3 + 2) (.bool lv)).set (i * 3 + 1) (.int .i64 (a : Int)) := by
  induction l generalizing i with
  | nil => simp at h
  | cons y l ih =>
    cases i with
    | zero =>
      simp only [List.getElem?_cons_zero, Option.some.injEq] at h
      subst h
      simp [encRs_cons, encR]
    | succ i =>
      simp only [List.getElem?_cons_succ] at h
      have := ih i h
      simp only [List.set_cons_succ, encRs_cons, this]
      have e1 : (i + 1) * 3 + 1 = (encR y).length + (i * 3 + 1) := by simp [encR]; omega
      have e2 : (i + 1) * 3 + 2 = (encR y).length + (i * 3 + 2) := by simp [encR]; omega
      rw [e2, e1, List.set_append_right _ _ (by omega), List.set_append_right _ _ (by omega)]
      simp
theorem encRs_set0 (l : List Tx) (i : Nat) (x : Tx) (lv : Bool) (h : l[i]? = some x) : encRs (l.set i ⟨x.mark, x.as, lv⟩) = (encRs l).set (i * 3 + 2) (.bool lv) := by
  induction l generalizing i with
  | nil => simp at h
  | cons y l ih =>
    cases i with
    | zero =>
      simp only [List.getElem?_cons_zero, Option.some.injEq] at h
      subst h
      simp [encRs_cons, encR]
    | succ i =>
      simp only [List.getElem?_cons_succ] at h
      have := ih i h
      simp only [List.set_cons_succ, encRs_cons, this]
      have e2 : (i + 1) * 3 + 2 = (encR y).length + (i * 3 + 2) := by simp [encR]; omega
      rw [e2, List.set_append_right _ _ (by omega)]
      simp

def isB (c : Clk) (t : Int) : Bool := (c.tx? t).isSome
theorem isB_some {c : Clk} {t : Int} {x : Tx} (h : c.tx? t = some x) : isB c t = true := by unfold isB; rw [h]; rfl
theorem isB_none {c : Clk} {t : Int} (h : c.tx? t = none) : isB c t = false := by unfold isB; rw [h]; rfl

theorem r_is_some (w : World) (B : Nat) (A : Option Addr) (cap : Nat) (c : Clk) (t : Int) (x : Tx) (h : RefA w B A cap c) (hx : c.tx? t = some x) :
    Calls Try.prog 57 #[.pointer (some ⟨B, 0, none⟩), .int .i64 t] w fun e w' => e = .returned (.bool true) ∧ w = w' := by
  obtain ⟨h1, h2⟩ := Clk.tx?_le hx
  have h3 := h.len
  have hc := h.blk.cell 0
  simp only [List.getElem?_cons_zero] at hc
  clear hx
  go_enter Try.func57, Try.ntmps57
  go_wp2
  go_ret
  exact ⟨by simp, rfl⟩
theorem r_is_none (w : World) (B : Nat) (A : Option Addr) (cap : Nat) (c : Clk) (t : Int) (h : RefA w B A cap c) (hx : c.tx? t = none) :
    Calls Try.prog 57 #[.pointer (some ⟨B, 0, none⟩), .int .i64 t] w fun e w' => e = .returned (.bool false) ∧ w = w' := by
  rw [Clk.tx?_none_iff] at hx
  have h3 := h.len
  have hc := h.blk.cell 0
  simp only [List.getElem?_cons_zero] at hc
  rcases hx with hx | hx
  · have h4 : ¬ 1 ≤ t := by omega
    go_enter Try.func57, Try.ntmps57
    go_wp2
    go_ret
    exact ⟨by simp, rfl⟩
  · have h4 : ¬ t ≤ c.l.length := by omega
    go_enter Try.func57, Try.ntmps57
    go_wp2
    go_ret
    exact ⟨by simp, rfl⟩

theorem r_count_any (w : World) (B : Nat) (A : Option Addr) (cap : Nat) (c : Clk) (h : RefA w B A cap c) :
    Calls Try.prog 29 #[.pointer (some ⟨B, 0, none⟩)] w fun e w' => e = .returned (.int .i64 (c.count : Int)) ∧ w = w' := by
  have h3 := h.len
  have hc := h.blk.cell 0
  simp only [List.getElem?_cons_zero] at hc
  go_enter Try.func29, Try.ntmps29
  go_wp2
  go_loop [3, 4] (fun n i => ∃ k : Nat, k ≤ c.l.length ∧ n = .int .i64 (((c.l.take k).filter (·.live)).length : Int) ∧ i = .int .i64 (k : Int)) (fun _ i => c.l.length - (intOf i).toNat)
  case atStart => exact ⟨0, Nat.zero_le _, rfl, rfl⟩
  case round =>
    obtain ⟨k, hk, rfl, rfl⟩ := hrel
    by_cases hlt : k < c.l.length
    · obtain ⟨x, hx⟩ : ∃ x, c.l[k]? = some x := ⟨_, List.getElem?_eq_getElem hlt⟩
      obtain ⟨g, rfl, hg⟩ := h.form (by omega)
      obtain ⟨c0, c1, c2⟩ := h.tx hx
      have hcl := count_le (c.l.take k)
      have hcl2 : (c.l.take k).length ≤ k := List.length_take_le _ _
      have HT := hid (Clk.count_take c.l k x hx)
      have HX := hid hx
      clear hx h
      cases hl : x.live
      all_goals
        rw [hl] at c2
        have HL := hid hl
        clear hl
        go_wp2
        go_round
        case rel => exact ⟨k + 1, by omega, by rw [HT.out, HL.out]; first | rfl | (simp; try go_num), by go_num⟩
        case measure => simp [intOf]; omega
    · obtain rfl : k = c.l.length := by omega
      go_wp2
      go_ret
      exact ⟨rfl, rfl⟩

theorem r_live_any (w : World) (B : Nat) (A : Option Addr) (cap : Nat) (c : Clk) (t : Int) (h : RefA w B A cap c) :
    Calls Try.prog 30 #[.pointer (some ⟨B, 0, none⟩), .int .i64 t] w fun e w' => e = .returned (.bool (c.live t)) ∧ w = w' := by
  cases hx : c.tx? t with
  | none =>
    have HE : Hid (c.live t = false) := by unfold Clk.live; rw [hx]; rfl
    go_enter Try.func30, Try.ntmps30
    go_wp2_with (go_at_call 57; refine (r_is_none _ B A cap c t h hx).mono ?_; rintro e w' ⟨rfl, rfl⟩)
    go_ret
    exact ⟨by rw [HE.out]; rfl, rfl⟩
  | some x =>
    obtain ⟨g, rfl⟩ := h.isRow hx
    obtain ⟨_, _, d2⟩ := h.tx (Clk.tx?_eq hx)
    obtain ⟨h1, h2⟩ := Clk.tx?_le hx
    have h3 := h.len
    have hc := h.blk.cell 0
    simp only [List.getElem?_cons_zero] at hc
    have HE : Hid (c.live t = x.live) := by unfold Clk.live; rw [hx]; rfl
    have C1 := hid (r_is_some w B _ cap c t x h hx)
    clear h hx
    go_enter Try.func30, Try.ntmps30
    go_wp2_with fail
    refine C1.out.mono ?_
    rintro e w' ⟨rfl, rfl⟩
    go_wp2
    go_ret
    exact ⟨by rw [HE.out]; rfl, rfl⟩
end Go.Proofs.Ytdgojfjaooindaa
