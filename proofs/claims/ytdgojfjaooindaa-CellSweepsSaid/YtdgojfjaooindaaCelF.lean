/-
  A cell of ints: slices.IndexFunc, slices.ContainsFunc over its versions; the small closures. (Printed by mk/celf.py.)
-/
import Derived.Test.YtdgojfjaooindaaCelC
namespace Go.Proofs.Ytdgojfjaooindaa
open Go.RowKit Go.Proofs.Lig

abbrev encV (y : Ver Int) : Value := .agg #[.int .i64 y.who, .int .i64 y.v, .bool y.gone]
/-- The versions l lie below n₀, from the address A on. -/
def VersO (n₀ : Nat) (W : World) (A : Option Addr) (l : List (Ver Int)) : Prop :=
  ∀ j y, l[j]? = some y → ∃ g o, A = some ⟨g, o, none⟩ ∧ g < n₀ ∧ W.cell? ⟨g, o + j * 3, none⟩ = some (.int .i64 y.who) ∧ W.cell? ⟨g, o + j * 3 + 1, none⟩ = some (.int .i64 y.v) ∧ W.cell? ⟨g, o + j * 3 + 2, none⟩ = some (.bool y.gone)
theorem VersO.below {n₀ : Nat} {A B : World} (h : Below n₀ A B) {a : Option Addr} {l : List (Ver Int)} (hv : VersO n₀ A a l) : VersO n₀ B a l := fun j y hy => by
  obtain ⟨g, o, e, hg, c1, c2, c3⟩ := hv j y hy
  exact ⟨g, o, e, hg, (h.cell (p := ⟨g, _, none⟩) hg).trans c1, (h.cell (p := ⟨g, _, none⟩) hg).trans c2, (h.cell (p := ⟨g, _, none⟩) hg).trans c3⟩
theorem VersO.mono {n₀ n₁ : Nat} {A : World} (h : n₀ ≤ n₁) {a : Option Addr} {l : List (Ver Int)} (hv : VersO n₀ A a l) : VersO n₁ A a l := fun j y hy => by
  obtain ⟨g, o, e, hg, c⟩ := hv j y hy
  exact ⟨g, o, e, by omega, c⟩
theorem CelA.versO {w : World} {X : Nat} {A : Option Addr} {cap : Nat} {l : List (Ver Int)} (h : CelA w X A cap l) : VersO w.heap.size w A l := fun j y hy => by
  obtain ⟨g, rfl, hg⟩ := h.form (by have := (List.getElem?_eq_some_iff.1 hy).1; omega)
  obtain ⟨a, b, c⟩ := row_ver h.own hy
  exact ⟨g, 0, rfl, hg, by simpa using a, by simpa using b, by simpa using c⟩
/-- The place of the first for which p holds; -1. -/
def place (p : Ver Int → Bool) (l : List (Ver Int)) : Int := match l.findIdx? p with | some i => (i : Int) | none => -1
theorem place_hit {p : Ver Int → Bool} {l : List (Ver Int)} {k : Nat} {y : Ver Int} (hy : l[k]? = some y) (hp : p y = true) (hn : ∀ (j : Nat) (z : Ver Int), j < k → l[j]? = some z → p z = false) : place p l = k := by
  have : l.findIdx? p = some k := by
    rw [List.findIdx?_eq_some_iff_getElem]
    obtain ⟨hk, rfl⟩ := List.getElem?_eq_some_iff.1 hy
    exact ⟨hk, hp, fun j hj => by simpa using hn j _ hj (List.getElem?_eq_getElem (by omega))⟩
  simp [place, this]
theorem place_miss {p : Ver Int → Bool} {l : List (Ver Int)} (hn : ∀ (j : Nat) (z : Ver Int), l[j]? = some z → p z = false) : place p l = -1 := by
  have : l.findIdx? p = none := by
    rw [List.findIdx?_eq_none_iff]
    intro x hx
    obtain ⟨j, hj⟩ := List.getElem?_of_mem hx
    exact hn j x hj
  simp [place, this]
theorem place_any (p : Ver Int → Bool) (l : List (Ver Int)) : decide (0 ≤ place p l) = l.any p := by
  unfold place
  cases h : l.findIdx? p with
  | none =>
    rw [List.findIdx?_eq_none_iff] at h
    have : l.any p = false := by simpa using h
    simp [this]
  | some i =>
    obtain ⟨hi, hp, _⟩ := List.findIdx?_eq_some_iff_getElem.1 h
    have : l.any p = true := List.any_eq_true.2 ⟨_, List.getElem_mem hi, hp⟩
    simp [this]


set_option maxHeartbeats 1000000 in
theorem index_undo (w : World) (A : Option Addr) (cap : Nat) (l : List (Ver Int)) (lb : Array Value) (p : Ver Int → Bool) (hl : (l.length : Int) ≤ 9223372036854775807) (h : VersO w.heap.size w A l)
    (ht : ∀ (W : World) (y : Ver Int), y ∈ l → Below w.heap.size w W → Calls Try.prog 71 (#[encV y] ++ lb) W fun e W' => e = .returned (.bool (p y)) ∧ Below W.heap.size W W') (v : Int) (hv : place p l = v) :
    Calls Try.prog 79 #[.slice A l.length cap, .func (.func 71) #[] lb] w fun e w' => e = .returned (.int .i64 v) ∧ Below w.heap.size w w' := by
  have HV := hid hv
  clear hv
  go_enter Try.func79, Try.ntmps79
  go_wp2
  go_loopw [8] (fun i wr => ∃ k : Nat, k ≤ l.length ∧ i = .int .i64 (k : Int) ∧ (∀ (j : Nat) (z : Ver Int), j < k → l[j]? = some z → p z = false) ∧ Below w.heap.size w wr) (fun i _ => l.length - (intOf i).toNat)
  case atStart => exact ⟨0, Nat.zero_le _, rfl, fun _ _ h => by omega, Below.refl _ _⟩
  case round =>
    obtain ⟨k, hk, rfl, hno, hb⟩ := hrel
    by_cases hlt : k < l.length
    · obtain ⟨y, hy⟩ : ∃ y, l[k]? = some y := ⟨_, List.getElem?_eq_getElem hlt⟩
      obtain ⟨g, o, rfl, hg, c0, c1, c2⟩ := VersO.below hb h k y hy
      have ht' := ht
      have HT := hid ht
      have HY := hid hy
      have HN := hid hno
      have hm := List.mem_of_getElem? hy
      clear ht ht' h hy hno
      cases hp : p y
      all_goals
        have HP := hid hp
        clear hp
        go_wp2_with (go_at_call 71; refine (HT.out _ y hm hb).mono ?_; rintro e w' ⟨rfl, hb1⟩; rw [HP.out])
        first
        | (go_ret; exact ⟨by rw [← HV.out, place_hit HY.out HP.out HN.out]; rfl, hb.trans (hb1.mono hb.size)⟩)
        | (go_roundw
           case rel =>
             refine ⟨k + 1, by omega, by go_num, fun j z hj hz => ?_, hb.trans (hb1.mono hb.size)⟩
             rcases Nat.lt_succ_iff_lt_or_eq.1 hj with h1 | rfl
             · exact HN.out j z h1 hz
             · rw [HY.out] at hz; cases hz; exact HP.out
           case measure => simp [intOf]; omega)
    · obtain rfl : k = l.length := by omega
      have HN := hid hno
      clear hno
      go_wp2
      go_ret
      exact ⟨by rw [← HV.out, place_miss fun j z hz => HN.out j z (List.getElem?_eq_some_iff.1 hz).1 hz]; rfl, hb⟩

set_option maxHeartbeats 1000000 in
theorem index_settled (w : World) (A : Option Addr) (cap : Nat) (l : List (Ver Int)) (lb : Array Value) (p : Ver Int → Bool) (hl : (l.length : Int) ≤ 9223372036854775807) (h : VersO w.heap.size w A l)
    (ht : ∀ (W : World) (y : Ver Int), y ∈ l → Below w.heap.size w W → Calls Try.prog 78 (#[encV y] ++ lb) W fun e W' => e = .returned (.bool (p y)) ∧ Below W.heap.size W W') (v : Int) (hv : place p l = v) :
    Calls Try.prog 79 #[.slice A l.length cap, .func (.func 78) #[] lb] w fun e w' => e = .returned (.int .i64 v) ∧ Below w.heap.size w w' := by
  have HV := hid hv
  clear hv
  go_enter Try.func79, Try.ntmps79
  go_wp2
  go_loopw [8] (fun i wr => ∃ k : Nat, k ≤ l.length ∧ i = .int .i64 (k : Int) ∧ (∀ (j : Nat) (z : Ver Int), j < k → l[j]? = some z → p z = false) ∧ Below w.heap.size w wr) (fun i _ => l.length - (intOf i).toNat)
  case atStart => exact ⟨0, Nat.zero_le _, rfl, fun _ _ h => by omega, Below.refl _ _⟩
  case round =>
    obtain ⟨k, hk, rfl, hno, hb⟩ := hrel
    by_cases hlt : k < l.length
    · obtain ⟨y, hy⟩ : ∃ y, l[k]? = some y := ⟨_, List.getElem?_eq_getElem hlt⟩
      obtain ⟨g, o, rfl, hg, c0, c1, c2⟩ := VersO.below hb h k y hy
      have ht' := ht
      have HT := hid ht
      have HY := hid hy
      have HN := hid hno
      have hm := List.mem_of_getElem? hy
      clear ht ht' h hy hno
      cases hp : p y
      all_goals
        have HP := hid hp
        clear hp
        go_wp2_with (go_at_call 78; refine (HT.out _ y hm hb).mono ?_; rintro e w' ⟨rfl, hb1⟩; rw [HP.out])
        first
        | (go_ret; exact ⟨by rw [← HV.out, place_hit HY.out HP.out HN.out]; rfl, hb.trans (hb1.mono hb.size)⟩)
        | (go_roundw
           case rel =>
             refine ⟨k + 1, by omega, by go_num, fun j z hj hz => ?_, hb.trans (hb1.mono hb.size)⟩
             rcases Nat.lt_succ_iff_lt_or_eq.1 hj with h1 | rfl
             · exact HN.out j z h1 hz
             · rw [HY.out] at hz; cases hz; exact HP.out
           case measure => simp [intOf]; omega)
    · obtain rfl : k = l.length := by omega
      have HN := hid hno
      clear hno
      go_wp2
      go_ret
      exact ⟨by rw [← HV.out, place_miss fun j z hz => HN.out j z (List.getElem?_eq_some_iff.1 hz).1 hz]; rfl, hb⟩

set_option maxHeartbeats 1000000 in
theorem index_spare (w : World) (A : Option Addr) (cap : Nat) (l : List (Ver Int)) (lb : Array Value) (p : Ver Int → Bool) (hl : (l.length : Int) ≤ 9223372036854775807) (h : VersO w.heap.size w A l)
    (ht : ∀ (W : World) (y : Ver Int), y ∈ l → Below w.heap.size w W → Calls Try.prog 80 (#[encV y] ++ lb) W fun e W' => e = .returned (.bool (p y)) ∧ Below W.heap.size W W') (v : Int) (hv : place p l = v) :
    Calls Try.prog 79 #[.slice A l.length cap, .func (.func 80) #[] lb] w fun e w' => e = .returned (.int .i64 v) ∧ Below w.heap.size w w' := by
  have HV := hid hv
  clear hv
  go_enter Try.func79, Try.ntmps79
  go_wp2
  go_loopw [8] (fun i wr => ∃ k : Nat, k ≤ l.length ∧ i = .int .i64 (k : Int) ∧ (∀ (j : Nat) (z : Ver Int), j < k → l[j]? = some z → p z = false) ∧ Below w.heap.size w wr) (fun i _ => l.length - (intOf i).toNat)
  case atStart => exact ⟨0, Nat.zero_le _, rfl, fun _ _ h => by omega, Below.refl _ _⟩
  case round =>
    obtain ⟨k, hk, rfl, hno, hb⟩ := hrel
    by_cases hlt : k < l.length
    · obtain ⟨y, hy⟩ : ∃ y, l[k]? = some y := ⟨_, List.getElem?_eq_getElem hlt⟩
      obtain ⟨g, o, rfl, hg, c0, c1, c2⟩ := VersO.below hb h k y hy
      have ht' := ht
      have HT := hid ht
      have HY := hid hy
      have HN := hid hno
      have hm := List.mem_of_getElem? hy
      clear ht ht' h hy hno
      cases hp : p y
      all_goals
        have HP := hid hp
        clear hp
        go_wp2_with (go_at_call 80; refine (HT.out _ y hm hb).mono ?_; rintro e w' ⟨rfl, hb1⟩; rw [HP.out])
        first
        | (go_ret; exact ⟨by rw [← HV.out, place_hit HY.out HP.out HN.out]; rfl, hb.trans (hb1.mono hb.size)⟩)
        | (go_roundw
           case rel =>
             refine ⟨k + 1, by omega, by go_num, fun j z hj hz => ?_, hb.trans (hb1.mono hb.size)⟩
             rcases Nat.lt_succ_iff_lt_or_eq.1 hj with h1 | rfl
             · exact HN.out j z h1 hz
             · rw [HY.out] at hz; cases hz; exact HP.out
           case measure => simp [intOf]; omega)
    · obtain rfl : k = l.length := by omega
      have HN := hid hno
      clear hno
      go_wp2
      go_ret
      exact ⟨by rw [← HV.out, place_miss fun j z hz => HN.out j z (List.getElem?_eq_some_iff.1 hz).1 hz]; rfl, hb⟩

set_option maxHeartbeats 1000000 in
theorem index_same (w : World) (A : Option Addr) (cap : Nat) (l : List (Ver Int)) (lb : Array Value) (p : Ver Int → Bool) (hl : (l.length : Int) ≤ 9223372036854775807) (h : VersO w.heap.size w A l)
    (ht : ∀ (W : World) (y : Ver Int), y ∈ l → Below w.heap.size w W → Calls Try.prog 81 (#[encV y] ++ lb) W fun e W' => e = .returned (.bool (p y)) ∧ Below W.heap.size W W') (v : Int) (hv : place p l = v) :
    Calls Try.prog 79 #[.slice A l.length cap, .func (.func 81) #[] lb] w fun e w' => e = .returned (.int .i64 v) ∧ Below w.heap.size w w' := by
  have HV := hid hv
  clear hv
  go_enter Try.func79, Try.ntmps79
  go_wp2
  go_loopw [8] (fun i wr => ∃ k : Nat, k ≤ l.length ∧ i = .int .i64 (k : Int) ∧ (∀ (j : Nat) (z : Ver Int), j < k → l[j]? = some z → p z = false) ∧ Below w.heap.size w wr) (fun i _ => l.length - (intOf i).toNat)
  case atStart => exact ⟨0, Nat.zero_le _, rfl, fun _ _ h => by omega, Below.refl _ _⟩
  case round =>
    obtain ⟨k, hk, rfl, hno, hb⟩ := hrel
    by_cases hlt : k < l.length
    · obtain ⟨y, hy⟩ : ∃ y, l[k]? = some y := ⟨_, List.getElem?_eq_getElem hlt⟩
      obtain ⟨g, o, rfl, hg, c0, c1, c2⟩ := VersO.below hb h k y hy
      have ht' := ht
      have HT := hid ht
      have HY := hid hy
      have HN := hid hno
      have hm := List.mem_of_getElem? hy
      clear ht ht' h hy hno
      cases hp : p y
      all_goals
        have HP := hid hp
        clear hp
        go_wp2_with (go_at_call 81; refine (HT.out _ y hm hb).mono ?_; rintro e w' ⟨rfl, hb1⟩; rw [HP.out])
        first
        | (go_ret; exact ⟨by rw [← HV.out, place_hit HY.out HP.out HN.out]; rfl, hb.trans (hb1.mono hb.size)⟩)
        | (go_roundw
           case rel =>
             refine ⟨k + 1, by omega, by go_num, fun j z hj hz => ?_, hb.trans (hb1.mono hb.size)⟩
             rcases Nat.lt_succ_iff_lt_or_eq.1 hj with h1 | rfl
             · exact HN.out j z h1 hz
             · rw [HY.out] at hz; cases hz; exact HP.out
           case measure => simp [intOf]; omega)
    · obtain rfl : k = l.length := by omega
      have HN := hid hno
      clear hno
      go_wp2
      go_ret
      exact ⟨by rw [← HV.out, place_miss fun j z hz => HN.out j z (List.getElem?_eq_some_iff.1 hz).1 hz]; rfl, hb⟩

theorem contains_settled (w : World) (A : Option Addr) (cap : Nat) (l : List (Ver Int)) (lb : Array Value) (p : Ver Int → Bool) (hl : (l.length : Int) ≤ 9223372036854775807) (h : VersO w.heap.size w A l)
    (ht : ∀ (W : World) (y : Ver Int), y ∈ l → Below w.heap.size w W → Calls Try.prog 78 (#[encV y] ++ lb) W fun e W' => e = .returned (.bool (p y)) ∧ Below W.heap.size W W') (v : Bool) (hv : l.any p = v) :
    Calls Try.prog 82 #[.slice A l.length cap, .func (.func 78) #[] lb] w fun e w' => e = .returned (.bool v) ∧ Below w.heap.size w w' := by
  have hq := (place_any p l).trans hv
  have HH := hid (index_settled w A cap l lb p hl h ht _ rfl)
  clear ht h hv hl
  generalize hpl : place p l = q at HH hq
  clear hpl
  go_enter Try.func82, Try.ntmps82
  go_wp2_with (go_at_call 79; refine HH.out.mono ?_; rintro e w' ⟨rfl, hb1⟩)
  go_ret
  exact ⟨by rw [← hq]; rfl, hb1⟩

theorem undo1_S (w : World) (T : Nat) (t : Int) (y : Ver Int) (hT : w.cell? ⟨T, 0, none⟩ = some (.int .i64 t)) (hl : T < w.heap.size) :
    Calls Try.prog 71 #[encV y, .pointer (some ⟨T, 0, none⟩)] w fun e w' => e = .returned (.bool (y.who == t)) ∧ Below w.heap.size w w' := by
  have hB : Below w.heap.size w (w.alloc (.cells #[.int .i64 y.who, .int .i64 y.v, .bool y.gone] 95)) := (Below.refl _ w).alloc (Nat.le_refl _) _
  have hc := (hB.cell (p := ⟨T, 0, none⟩) hl).trans hT
  go_enter Try.func71, Try.ntmps71
  go_wp2
  go_ret
  exact ⟨by simp, hB⟩
theorem same_S (w : World) (Y : Nat) (t : Int) (y : Ver Int) (hT : w.cell? ⟨Y, 0, none⟩ = some (.int .i64 t)) (hl : Y < w.heap.size) :
    Calls Try.prog 81 #[encV y, .pointer (some ⟨Y, 0, none⟩)] w fun e w' => e = .returned (.bool (y.who == t)) ∧ Below w.heap.size w w' := by
  have hB : Below w.heap.size w (w.alloc (.cells #[.int .i64 y.who, .int .i64 y.v, .bool y.gone] 95)) := (Below.refl _ w).alloc (Nat.le_refl _) _
  have hc := (hB.cell (p := ⟨Y, 0, none⟩) hl).trans hT
  go_enter Try.func81, Try.ntmps81
  go_wp2
  go_ret
  exact ⟨by simp, hB⟩
theorem settled1_S (w : World) (T B : Nat) (S : List Nat) (c : Clk) (y : Ver Int) (hT : w.cell? ⟨T, 0, none⟩ = some (.pointer (some ⟨B, 0, none⟩))) (hl : T < w.heap.size) (hc : ClkS w B S c) (hg : c.Good) :
    Calls Try.prog 78 #[encV y, .pointer (some ⟨T, 0, none⟩)] w fun e w' => e = .returned (.bool (c.settled y.who)) ∧ Below w.heap.size w w' := by
  have hB : Below w.heap.size w (w.alloc (.cells #[.int .i64 y.who, .int .i64 y.v, .bool y.gone] 95)) := (Below.refl _ w).alloc (Nat.le_refl _) _
  have hct := (hB.cell (p := ⟨T, 0, none⟩) hl).trans hT
  have HC := hid (hc.below hB)
  have HG := hid hg
  clear hc hg
  go_enter Try.func78, Try.ntmps78
  go_wp2_with (go_at_call 21; refine (settled_S _ B S c y.who HC.out HG.out _ rfl).mono ?_; rintro e wa ⟨rfl, hb⟩)
  go_ret
  exact ⟨rfl, hB.trans (hb.mono (by simp))⟩
end Go.Proofs.Ytdgojfjaooindaa
