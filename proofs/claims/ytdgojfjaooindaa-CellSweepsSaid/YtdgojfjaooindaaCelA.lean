/-
  A cell of ints in memory, and contracts of its functions: New, Len, Check.
-/
import Derived.Test.YtdgojfjaooindaaClkS
import Derived.Test.YtdgojfjaooindaaCelPlain
import Derived.Deep.RegionHeld3
namespace Go.Proofs.Ytdgojfjaooindaa
open Go.RowKit Go.Proofs.Lig

def encVer (y : Ver Int) : List Value := [.int .i64 y.who, .int .i64 y.v, .bool y.gone]
def encVers (l : List (Ver Int)) : List Value := l.flatMap encVer

/-- The cell lies in block X; its versions l lie in the row of A. -/
structure CelA (w : World) (X : Nat) (A : Option Addr) (cap : Nat) (l : List (Ver Int)) : Prop where
  blk : Blk w X 93 [.slice A l.length cap]
  own : w.ownsRow 0 95 3 (.slice A l.length cap) l.length (encVers l)

section
variable {w w' : World} {X : Nat} {A : Option Addr} {cap : Nat} {l : List (Ver Int)}
theorem CelA.drewN (h : CelA w X A cap l) (n : Nat) : CelA (w.drewN n) X A cap l := ⟨h.blk, h.own⟩
theorem CelA.form (h : CelA w X A cap l) (hn : 0 < l.length) : ∃ g, A = some ⟨g, 0, none⟩ ∧ g < w.heap.size := by
  obtain ⟨g, cap', hv, _, hlt⟩ := h.own.form hn
  injection hv with e1 _ _
  exact ⟨g, e1, hlt⟩
theorem CelA.len (h : CelA w X A cap l) : (l.length : Int) ≤ 9223372036854775807 := by
  rcases h.own.2 with ⟨_, h0⟩ | ⟨g, cap', cur, hv, _, _, h1, h2, _⟩
  · omega
  · unfold maxLen at h2; omega
theorem CelA.capl (h : CelA w X A cap l) : l.length ≤ cap ∧ cap ≤ maxLen := by
  rcases h.own.2 with ⟨hv, h0⟩ | ⟨g, cap', cur, hv, _, _, h1, h2, _⟩
  · injection hv with _ _ e; subst e; exact ⟨by omega, by unfold maxLen; omega⟩
  · injection hv with _ _ e; subst e; exact ⟨h1, h2⟩
end
theorem encVers_cons (x : Ver Int) (l : List (Ver Int)) : encVers (x :: l) = encVer x ++ encVers l := rfl
theorem encVers_append (l l' : List (Ver Int)) : encVers (l ++ l') = encVers l ++ encVers l' := by simp [encVers]
theorem encVers_len (l : List (Ver Int)) : (encVers l).length = l.length * 3 := by
  induction l with
  | nil => rfl
  | cons x l ih => rw [encVers_cons, List.length_append, ih]; simp [encVer]; omega
theorem encVers_get (l : List (Ver Int)) (i : Nat) (x : Ver Int) (h : l[i]? = some x) : (encVers l)[i * 3]? = some (.int .i64 x.who) ∧ (encVers l)[i * 3 + 1]? = some (.int .i64 x.v) ∧ (encVers l)[i * 3 + 2]? = some (.bool x.gone) := by
  induction l generalizing i with
  | nil => simp at h
  | cons y l ih =>
    cases i with
    | zero => simp at h; subst h; exact ⟨rfl, rfl, rfl⟩
    | succ i =>
      have := ih i (by simpa using h)
      have e : ∀ j, (encVers (y :: l))[(i + 1) * 3 + j]? = (encVers l)[i * 3 + j]? := fun j => by
        show (encVer y ++ encVers l)[_]? = _
        rw [List.getElem?_append_right (by simp [encVer]; omega)]
        congr 1
        simp [encVer]; omega
      exact ⟨(e 0).trans this.1, (e 1).trans this.2.1, (e 2).trans this.2.2⟩
/-- The cells of the i-th version of a row. -/
theorem row_ver {w : World} {N g n cap : Nat} {l : List (Ver Int)} (h : w.ownsRow N 95 3 (.slice (some ⟨g, 0, none⟩) n cap) n (encVers l)) {i : Nat} {x : Ver Int} (hx : l[i]? = some x) :
    w.cell? ⟨g, i * 3, none⟩ = some (.int .i64 x.who) ∧ w.cell? ⟨g, i * 3 + 1, none⟩ = some (.int .i64 x.v) ∧ w.cell? ⟨g, i * 3 + 2, none⟩ = some (.bool x.gone) := by
  have hi := (List.getElem?_eq_some_iff.1 hx).1
  have hl : l.length * 3 = n * 3 := by rw [← encVers_len]; exact h.1
  obtain ⟨a, b, d⟩ := encVers_get l i x hx
  exact ⟨(h.cellAt _ (by omega)).trans a, (h.cellAt _ (by omega)).trans b, (h.cellAt _ (by omega)).trans d⟩

/-- The blocks that a cell lies in. -/
def CelS (w : World) (X : Nat) (S : List Nat) (l : List (Ver Int)) : Prop := ∃ A cap, CelA w X A cap l ∧ S = X :: (Value.slice A l.length cap).ownBlock.toList
abbrev celT : List TypeId := [93, 95]
section
variable {w w' : World} {X : Nat} {S S' : List Nat} {l l' : List (Ver Int)}
theorem CelS.typed (h : CelS w X S l) : ∀ k ∈ S, ∃ cs t fr, w.heap[k]? = some (.cells cs t fr) ∧ t ∈ celT := by
  obtain ⟨A, cap, h, rfl⟩ := h
  intro k hk
  rcases List.mem_cons.1 hk with rfl | hk
  · exact ⟨_, _, _, h.blk, by simp⟩
  · have hk : (Value.slice A l.length cap).ownBlock = some k := by simpa using hk
    rcases h.own.2 with ⟨h0, _⟩ | ⟨g, cap', cur, hv, _, hh, _⟩
    · rw [h0] at hk; simp [Value.ownBlock] at hk
    · rw [hv] at hk
      have : g = k := by simpa [Value.ownBlock] using hk
      subst this
      exact ⟨_, _, _, hh, by simp⟩
theorem CelA.tfr {A : Option Addr} {cap : Nat} {ts : List TypeId} (h : CelA w X A cap l) (hf : TFr ts w w') (hd : ∀ t ∈ celT, t ∉ ts) : CelA w' X A cap l :=
  ⟨h.blk.tfr hf (hd _ (by simp)), own_tfr h.own hf (hd _ (by simp))⟩
theorem CelA.below {A : Option Addr} {cap : Nat} (h : CelA w X A cap l) (hb : Below w.heap.size w w') : CelA w' X A cap l := h.tfr (ts := []) (.of_below hb) (by simp)
theorem CelS.tfr {ts : List TypeId} (h : CelS w X S l) (hf : TFr ts w w') (hd : ∀ t ∈ celT, t ∉ ts) : CelS w' X S l := by
  obtain ⟨A, cap, h, rfl⟩ := h
  exact ⟨A, cap, h.tfr hf hd, rfl⟩
end

theorem cel_new (w : World) : Calls Try.prog 41 #[] w fun e w' => e = .returned (.pointer (some ⟨w.heap.size, 0, none⟩)) ∧ w' = w.alloc (.cells #[.slice none 0 0] 93) := by
  go_enter Try.func41, Try.ntmps41
  go_wp2
  go_ret
  exact ⟨rfl, rfl⟩
theorem cel_len (w : World) (X : Nat) (A : Option Addr) (cap : Nat) (l : List (Ver Int)) (h : CelA w X A cap l) :
    Calls Try.prog 47 #[.pointer (some ⟨X, 0, none⟩)] w fun e w' => e = .returned (.int .i64 (l.length : Int)) ∧ w = w' := by
  have hc := h.blk.cell 0
  simp only [List.getElem?_cons_zero] at hc
  go_enter Try.func47, Try.ntmps47
  go_wp2
  go_ret
  exact ⟨rfl, rfl⟩
theorem cel_check_empty (w : World) (X : Nat) (A : Option Addr) (cap : Nat) (C : Option Addr) (t : Int) (h : CelA w X A cap []) :
    Calls Try.prog 44 #[.pointer (some ⟨X, 0, none⟩), .pointer C, .int .i64 t] w fun e w' => e = .returned (.int .i64 0) ∧ Below w.heap.size w w' := by
  have hc := h.blk.cell 0
  simp only [List.getElem?_cons_zero, List.length_nil] at hc
  go_enter Try.func44, Try.ntmps44
  go_wp2
  go_quiet (fail)
  go_wp2
  go_ret
  exact ⟨rfl, below_drewN _ _⟩
end Go.Proofs.Ytdgojfjaooindaa
