/-
  A cell of values of several cells in memory, and contracts of its functions: New, Len, Check of none. (Printed by mk/celgen.py.)
-/
import Derived.Test.YtdfkdgnhpdgphaaGreatDoorSkw8
import Derived.Test.YtdfkdgnhpdgphaaGreatDoorSkw5
import Derived.Test.YtdfkdgnhpdgphaaGreatDoorSkw0
import Derived.Deep.RegionHeld3
namespace Go.Proofs.YtdfkdgnhpdgphaaGreatDoor.Edg
open Go.RowKit Go.Proofs.Lig

def encVer (y : Ver EdgV) : List Value := [.int .i64 y.who, .int .i64 y.v.src, .int .i64 y.v.dst, .string y.v.ty, .float .f64 y.v.w, .bool y.gone]
def encVers (l : List (Ver EdgV)) : List Value := l.flatMap encVer

/-- The cell lies in block X; its versions l lie in the row of A. -/
structure CelA (w : World) (X : Nat) (A : Option Addr) (cap : Nat) (l : List (Ver EdgV)) : Prop where
  blk : Blk w X 282 [.slice A l.length cap]
  own : w.ownsRow 0 280 6 (.slice A l.length cap) l.length (encVers l)

section
variable {w w' : World} {X : Nat} {A : Option Addr} {cap : Nat} {l : List (Ver EdgV)}
set_option maxRecDepth 100000 in
theorem CelA.drewN (h : CelA w X A cap l) (n : Nat) : CelA (w.drewN n) X A cap l := ⟨h.blk, h.own⟩
theorem CelA.form (h : CelA w X A cap l) (hn : 0 < l.length) : ∃ g, A = some ⟨g, 0, none⟩ ∧ g < w.heap.size := by
  obtain ⟨g, cap', hv, _, hlt⟩ := h.own.form hn
  injection hv with e1 _ _
  exact ⟨g, e1, hlt⟩
set_option maxRecDepth 100000 in
theorem CelA.len (h : CelA w X A cap l) : (l.length : Int) ≤ 9223372036854775807 := by
  rcases h.own.2 with ⟨_, h0⟩ | ⟨g, cap', cur, hv, _, _, h1, h2, _⟩
  · omega
  · unfold maxLen at h2; omega
set_option maxRecDepth 100000 in
theorem CelA.capl (h : CelA w X A cap l) : l.length ≤ cap ∧ cap ≤ maxLen := by
  rcases h.own.2 with ⟨hv, h0⟩ | ⟨g, cap', cur, hv, _, _, h1, h2, _⟩
  · injection hv with _ _ e; subst e; exact ⟨by omega, by unfold maxLen; omega⟩
  · injection hv with _ _ e; subst e; exact ⟨h1, h2⟩
end
set_option maxRecDepth 100000 in
theorem encVers_cons (x : Ver EdgV) (l : List (Ver EdgV)) : encVers (x :: l) = encVer x ++ encVers l := rfl
theorem encVers_append (l l' : List (Ver EdgV)) : encVers (l ++ l') = encVers l ++ encVers l' := by simp [encVers]
theorem encVers_len (l : List (Ver EdgV)) : (encVers l).length = l.length * 6 := by
  induction l with
  | nil => rfl
  | cons x l ih => rw [encVers_cons, List.length_append, ih]; simp [encVer]; omega
set_option maxRecDepth 100000 in
theorem encVers_get (l : List (Ver EdgV)) (i : Nat) (x : Ver EdgV) (h : l[i]? = some x) : (encVers l)[i * 6]? = some (.int .i64 x.who) ∧ (encVers l)[i * 6 + 1]? = some (.int .i64 x.v.src) ∧ (encVers l)[i * 6 + 2]? = some (.int .i64 x.v.dst) ∧ (encVers l)[i * 6 + 3]? = some (.string x.v.ty) ∧ (encVers l)[i * 6 + 4]? = some (.float .f64 x.v.w) ∧ (encVers l)[i * 6 + 5]? = some (.bool x.gone) := by
  induction l generalizing i with
  | nil => simp at h
  | cons y l ih =>
    cases i with
    | zero => simp at h; subst h; exact ⟨rfl, rfl, rfl, rfl, rfl, rfl⟩
    | succ i =>
      obtain ⟨q0, q1, q2, q3, q4, qg⟩ := ih i (by simpa using h)
      have e : ∀ j, (encVers (y :: l))[(i + 1) * 6 + j]? = (encVers l)[i * 6 + j]? := fun j => by
        show (encVer y ++ encVers l)[_]? = _
        rw [List.getElem?_append_right (by simp [encVer]; omega)]
        congr 1
        simp [encVer]; omega
      exact ⟨(e 0).trans q0, (e 1).trans q1, (e 2).trans q2, (e 3).trans q3, (e 4).trans q4, (e 5).trans qg⟩
set_option maxRecDepth 100000 in
/-- The cells of the i-th version of a row. -/
theorem row_ver {w : World} {N g n cap : Nat} {l : List (Ver EdgV)} (h : w.ownsRow N 280 6 (.slice (some ⟨g, 0, none⟩) n cap) n (encVers l)) {i : Nat} {x : Ver EdgV} (hx : l[i]? = some x) :
    w.cell? ⟨g, i * 6, none⟩ = some (.int .i64 x.who) ∧ w.cell? ⟨g, i * 6 + 1, none⟩ = some (.int .i64 x.v.src) ∧ w.cell? ⟨g, i * 6 + 2, none⟩ = some (.int .i64 x.v.dst) ∧ w.cell? ⟨g, i * 6 + 3, none⟩ = some (.string x.v.ty) ∧ w.cell? ⟨g, i * 6 + 4, none⟩ = some (.float .f64 x.v.w) ∧ w.cell? ⟨g, i * 6 + 5, none⟩ = some (.bool x.gone) := by
  have hi := (List.getElem?_eq_some_iff.1 hx).1
  have hl : l.length * 6 = n * 6 := by rw [← encVers_len]; exact h.1
  obtain ⟨q0, q1, q2, q3, q4, qg⟩ := encVers_get l i x hx
  exact ⟨(h.cellAt _ (by omega)).trans q0, (h.cellAt _ (by omega)).trans q1, (h.cellAt _ (by omega)).trans q2, (h.cellAt _ (by omega)).trans q3, (h.cellAt _ (by omega)).trans q4, (h.cellAt _ (by omega)).trans qg⟩

/-- The blocks that a cell lies in. -/
def CelS (w : World) (X : Nat) (S : List Nat) (l : List (Ver EdgV)) : Prop := ∃ A cap, CelA w X A cap l ∧ S = X :: (Value.slice A l.length cap).ownBlock.toList
abbrev celT : List TypeId := [282, 280]
section
variable {w w' : World} {X : Nat} {S S' : List Nat} {l l' : List (Ver EdgV)}
set_option maxRecDepth 100000 in
theorem CelS.typed (h : CelS w X S l) : ∀ k ∈ S, ∃ cs t fr, w.heap[k]? = some (.cells cs t fr) ∧ t ∈ celT := by
  obtain ⟨A, cap, h, rfl⟩ := h
  intro k hk
  rcases List.mem_cons.1 hk with rfl | hk
  · exact ⟨_, _, _, h.blk, by simp⟩
  · have hk : (Value.slice A l.length cap).ownBlock = some k := by simpa using hk
    rcases h.own.2 with ⟨h0, _⟩ | ⟨g, cap', cur, hv, _, hh, _⟩
    · rw [h0] at hk; simp [Value.ownBlock] at hk
    · rw [hv] at hk
      have : g = k := by simpa [Value.ownBlock] using hk
      subst this
      exact ⟨_, _, _, hh, by simp⟩
set_option maxRecDepth 100000 in
theorem CelA.tfr {A : Option Addr} {cap : Nat} {ts : List TypeId} (h : CelA w X A cap l) (hf : TFr ts w w') (hd : ∀ t ∈ celT, t ∉ ts) : CelA w' X A cap l :=
  ⟨h.blk.tfr hf (hd _ (by simp)), own_tfr h.own hf (hd _ (by simp))⟩
theorem CelA.below {A : Option Addr} {cap : Nat} (h : CelA w X A cap l) (hb : Below w.heap.size w w') : CelA w' X A cap l := h.tfr (ts := []) (.of_below hb) (by simp)
set_option maxRecDepth 100000 in
theorem CelS.tfr {ts : List TypeId} (h : CelS w X S l) (hf : TFr ts w w') (hd : ∀ t ∈ celT, t ∉ ts) : CelS w' X S l := by
  obtain ⟨A, cap, h, rfl⟩ := h
  exact ⟨A, cap, h.tfr hf hd, rfl⟩
end

set_option maxRecDepth 100000 in
theorem cel_new (w : World) : Calls Tryz.prog 155 #[] w fun e w' => e = .returned (.pointer (some ⟨w.heap.size, 0, none⟩)) ∧ w' = w.alloc (.cells #[.slice none 0 0] 282) := by
  go_enter Tryz.func155, Tryz.ntmps155
  go_wp2
  go_ret
  exact ⟨rfl, rfl⟩
set_option maxRecDepth 100000 in
theorem cel_check_empty (w : World) (X : Nat) (A : Option Addr) (cap : Nat) (C : Option Addr) (t : Int) (h : CelA w X A cap []) :
    Calls Tryz.prog 235 #[.pointer (some ⟨X, 0, none⟩), .pointer C, .int .i64 t] w fun e w' => e = .returned (.int .i64 0) ∧ Below w.heap.size w w' := by
  have hc := h.blk.cell 0
  simp only [List.getElem?_cons_zero, List.length_nil] at hc
  go_enter Tryz.func235, Tryz.ntmps235
  go_wp2
  go_quiet (fail)
  go_wp2
  go_ret
  exact ⟨rfl, below_drewN _ _⟩
set_option maxRecDepth 100000 in
theorem cel_check_nil (w : World) (C : Option Addr) (t : Int) :
    Calls Tryz.prog 235 #[.pointer none, .pointer C, .int .i64 t] w fun e w' => e = .returned (.int .i64 4) ∧ w = w' := by
  go_enter Tryz.func235, Tryz.ntmps235
  go_wp2
  go_ret
  exact ⟨rfl, rfl⟩
end Go.Proofs.YtdfkdgnhpdgphaaGreatDoor.Edg

/-
  Contracts of a cell of values of several cells: Check. (Printed by mk/celgen.py.)
-/
namespace Go.Proofs.YtdfkdgnhpdgphaaGreatDoor.Edg
open Go.RowKit Go.Proofs.Lig

set_option maxRecDepth 100000 in
theorem ClkS.drewN {w : World} {B : Nat} {S : List Nat} {c : Clk} (h : ClkS w B S c) (n : Nat) : ClkS (w.drewN n) B S c := h.below (below_drewN w n)

set_option maxHeartbeats 400000 in
set_option maxRecDepth 100000 in
theorem cel_check_some (w : World) (X : Nat) (A : Option Addr) (cap : Nat) (l : List (Ver EdgV)) (B : Nat) (S : List Nat) (c : Clk) (t : Int) (y : Ver EdgV) (h : CelA w X A cap l) (hc : ClkS w B S c) (hg : c.Good) (hy : l.getLast? = some y) (v : Bool) (hv : c.clashes t y.who = v) :
    Calls Tryz.prog 235 #[.pointer (some ⟨X, 0, none⟩), .pointer (some ⟨B, 0, none⟩), .int .i64 t] w fun e w' => e = .returned (.int .i64 (if v then 6 else 0)) ∧ Below w.heap.size w w' := by
  obtain ⟨n, hn⟩ : ∃ n, l.length = n + 1 := by
    cases l with
    | nil => simp at hy
    | cons a l => exact ⟨l.length, by simp⟩
  obtain ⟨g, rfl, hgw⟩ := h.form (by omega)
  have hx := h.blk.cell 0
  simp only [List.getElem?_cons_zero] at hx
  have hln := h.len
  have hyn : l[n]? = some y := by rw [List.getLast?_eq_getElem?, hn] at hy; exact hy
  obtain ⟨c0, _⟩ := row_ver h.own hyn
  rw [hn] at hx hln
  have hX := h.blk.lt
  have HC := hid hc
  have HG := hid hg
  have HV := hid hv
  have hq0 : (0 : Int) ≤ (n : Int) := by omega
  have hq1 : (n : Int) < (n : Int) + 1 := by omega
  have hwr : IntKind.i64.wrap ((n : Int) + 1 - 1) = (n : Int) := by rw [IntKind.wrap_i64]; omega
  have hwr2 : IntKind.i64.wrap (n : Int) = (n : Int) := by rw [IntKind.wrap_i64]; omega
  clear h hc hg hy hyn hn hv
  cases v
  all_goals
    go_enter Tryz.func235, Tryz.ntmps235
    go_wp2
    go_region_held3 (fun w' => w'.cell? ⟨X, 0, none⟩ = some (.slice (some ⟨g, 0, none⟩) (n + 1) cap) ∧ w'.cell? ⟨g, n * 6, none⟩ = some (.int .i64 y.who))
      (first
        | exact ⟨(hb.cell (p := ⟨X, 0, none⟩) hX).trans hx, (hb.cell (p := ⟨g, n * 6, none⟩) hgw).trans c0⟩
        | go_keep)
      (first
        | (go_at_call 308; refine (clashes_S _ B S c t y.who (by exact ClkS.drewN HC.out 1) HG.out _ HV.out).mono ?_; rintro e wa ⟨rfl, hb⟩))
    clear hwr hwr2 hx c0 hln
    go_wp2
    go_ret
    exact ⟨rfl, (below_drewN w 1).trans hb⟩
end Go.Proofs.YtdfkdgnhpdgphaaGreatDoor.Edg
