/-
  The reference's cell: Read.
-/
import Derived.Test.YtdgojfjaooindaaRclB
namespace Go.Proofs.Ytdgojfjaooindaa.Rcl
open Go.RowKit Go.Proofs.Lig

/-- Nothing among those behind place k is seen. -/
def NoneFrom (p : Int → Bool) (l : List (Ver Int)) (k : Nat) : Prop := ∀ j y, k ≤ j → l[j]? = some y → p y.who = false
theorem lastBy_stop {p : Int → Bool} {l : List (Ver Int)} {k : Nat} {y : Ver Int} (hy : l[k]? = some y) (hp : p y.who = true) (hn : NoneFrom p l (k + 1)) : Cel.lastBy p l = if y.gone then none else some y.v := by
  have hl : l = l.take k ++ y :: l.drop (k + 1) := by
    have hk := (List.getElem?_eq_some_iff.1 hy).1
    have he := (List.getElem?_eq_some_iff.1 hy).2
    rw [← he, ← List.drop_eq_getElem_cons hk, List.take_append_drop]
  have hd : (l.drop (k + 1)).reverse.find? (fun y => p y.who) = none := by
    rw [List.find?_eq_none]
    intro z hz
    rw [List.mem_reverse] at hz
    obtain ⟨j, hj⟩ := List.getElem?_of_mem hz
    rw [List.getElem?_drop] at hj
    simp [hn _ z (by omega) hj]
  unfold Cel.lastBy
  rw [hl]
  simp only [List.reverse_append, List.reverse_cons, List.append_assoc, List.find?_append, hd, Option.none_or, List.cons_append, List.nil_append, List.find?_cons, hp]
theorem lastBy_all {p : Int → Bool} {l : List (Ver Int)} (hn : NoneFrom p l 0) : Cel.lastBy p l = none := by
  have : l.reverse.find? (fun y => p y.who) = none := by
    rw [List.find?_eq_none]
    intro z hz
    rw [List.mem_reverse] at hz
    obtain ⟨j, hj⟩ := List.getElem?_of_mem hz
    simp [hn j z (by omega) hj]
  unfold Cel.lastBy
  rw [this]

set_option maxRecDepth 100000 in
set_option maxHeartbeats 1000000 in
theorem r_read (w w0 : World) (N X : Nat) (A : Option Addr) (cap : Nat) (l : List (Ver Int)) (B : Nat) (c : Clk) (t : Int) (h : CelA w X A cap l) (hc : RefN N w0 w B c) :
    Calls Try.prog 72 #[.pointer (some ⟨X, 0, none⟩), .pointer (some ⟨B, 0, none⟩), .int .i64 t] w fun e w' => e = .returned (.tuple #[.int .i64 ((Cel.lastBy (c.sees t) l).getD 0), .bool (Cel.lastBy (c.sees t) l).isSome]) ∧ w = w' := by
  have hx := h.blk.cell 0
  have hln := h.len
  simp only [List.getElem?_cons_zero] at hx
  have HH := hid h
  have HC := hid hc
  clear h hc
  go_enter Try.func72, Try.ntmps72
  go_wp2_with fail
  go_loopw [8] (fun i wr => ∃ k : Nat, k ≤ l.length ∧ i = .int .i64 ((k : Int) - 1) ∧ NoneFrom (c.sees t) l k ∧ w = wr) (fun i _ => (intOf i + 1).toNat)
  case atStart => exact ⟨l.length, Nat.le_refl _, rfl, fun j y hj hy => by have := (List.getElem?_eq_some_iff.1 hy).1; omega, rfl⟩
  case round =>
    obtain ⟨k, hk, rfl, hno, rfl⟩ := hrel
    have HN := hid hno
    clear hno
    cases k with
    | zero =>
      go_wp2_with fail
      go_ret2
      rw [lastBy_all HN.out]
      exact ⟨rfl, rfl⟩
    | succ k =>
      obtain ⟨y, hy⟩ : ∃ y, l[k]? = some y := ⟨_, List.getElem?_eq_getElem (by omega)⟩
      obtain ⟨g, rfl, hgl⟩ := HH.out.form (by omega)
      obtain ⟨c0, c1, c2⟩ := row_ver HH.out.own hy
      have HY := hid hy
      clear hy
      have e : ((k + 1 : Nat) : Int) - 1 = (k : Int) := by omega
      rw [e]
      clear e
      cases hs : c.sees t y.who
      · have HS := hid (r_sees_N HC.out t y.who false hs)
        have HP := hid hs
        clear hs
        go_wp2_with fail
        refine HS.out.mono ?_
        rintro e w' ⟨rfl, rfl⟩
        go_wp2_with fail
        go_roundw
        case rel =>
          refine ⟨k, by omega, by go_num, fun j z hj hz => ?_, by trivial⟩
          rcases Nat.eq_or_lt_of_le hj with h1 | h1
          · subst h1
            rw [HY.out] at hz
            cases hz
            exact HP.out
          · exact HN.out j z h1 hz
        case measure => simp [intOf]
      · have HS := hid (r_sees_N HC.out t y.who true hs)
        have HL := hid (lastBy_stop HY.out hs HN.out)
        clear hs
        cases hg : y.gone
        all_goals
          rw [hg] at HL c2
          clear hg
          go_wp2_with fail
          refine HS.out.mono ?_
          rintro e w' ⟨rfl, rfl⟩
          go_wp2_with fail
          go_ret2
          rw [HL.out]
          exact ⟨rfl, rfl⟩
end Go.Proofs.Ytdgojfjaooindaa.Rcl
