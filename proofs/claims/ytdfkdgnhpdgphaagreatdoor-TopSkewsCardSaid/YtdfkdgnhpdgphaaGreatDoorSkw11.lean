/-
  A cell of values of several cells: slices.IndexFunc, slices.ContainsFunc over its versions; Wrote; Undo where nothing is undone. (Printed by mk/celgen.py.)
-/
import Derived.Laws.EntriesVeiled
import Derived.Test.YtdfkdgnhpdgphaaGreatDoorSkw10
namespace Go.Proofs.YtdfkdgnhpdgphaaGreatDoor.Nod
open Go.RowKit Go.Proofs.Lig

abbrev encV (y : Ver NodV) : Value := .agg #[.int .i64 y.who, .slice y.v.la y.v.ln y.v.lc, .slice y.v.pa y.v.pn y.v.pc, .bool y.gone]
/-- The versions l lie below n₀, from the address A on. -/
def VersO (n₀ : Nat) (W : World) (A : Option Addr) (l : List (Ver NodV)) : Prop :=
  ∀ j y, l[j]? = some y → ∃ g o, A = some ⟨g, o, none⟩ ∧ g < n₀ ∧ W.cell? ⟨g, o + j * 4, none⟩ = some (.int .i64 y.who) ∧ W.cell? ⟨g, o + j * 4 + 1, none⟩ = some (.slice y.v.la y.v.ln y.v.lc) ∧ W.cell? ⟨g, o + j * 4 + 2, none⟩ = some (.slice y.v.pa y.v.pn y.v.pc) ∧ W.cell? ⟨g, o + j * 4 + 3, none⟩ = some (.bool y.gone)
set_option maxRecDepth 100000 in
theorem VersO.below {n₀ : Nat} {A B : World} (h : Below n₀ A B) {a : Option Addr} {l : List (Ver NodV)} (hv : VersO n₀ A a l) : VersO n₀ B a l := fun j y hy => by
  obtain ⟨g, o, e, hg, c0, c1, c2, cg⟩ := hv j y hy
  exact ⟨g, o, e, hg, (h.cell (p := ⟨g, _, none⟩) hg).trans c0, (h.cell (p := ⟨g, _, none⟩) hg).trans c1, (h.cell (p := ⟨g, _, none⟩) hg).trans c2, (h.cell (p := ⟨g, _, none⟩) hg).trans cg⟩
set_option maxRecDepth 100000 in
theorem VersO.mono {n₀ n₁ : Nat} {A : World} (h : n₀ ≤ n₁) {a : Option Addr} {l : List (Ver NodV)} (hv : VersO n₀ A a l) : VersO n₁ A a l := fun j y hy => by
  obtain ⟨g, o, e, hg, c⟩ := hv j y hy
  exact ⟨g, o, e, by omega, c⟩
set_option maxRecDepth 100000 in
theorem CelA.versO {w : World} {X : Nat} {A : Option Addr} {cap : Nat} {l : List (Ver NodV)} (h : CelA w X A cap l) : VersO w.heap.size w A l := fun j y hy => by
  obtain ⟨g, rfl, hg⟩ := h.form (by have := (List.getElem?_eq_some_iff.1 hy).1; omega)
  obtain ⟨c0, c1, c2, cg⟩ := row_ver h.own hy
  exact ⟨g, 0, rfl, hg, by simpa using c0, by simpa using c1, by simpa using c2, by simpa using cg⟩
/-- The place of the first for which p holds; -1. -/
def place (p : Ver NodV → Bool) (l : List (Ver NodV)) : Int := match l.findIdx? p with | some i => (i : Int) | none => -1
set_option maxRecDepth 100000 in
theorem place_hit {p : Ver NodV → Bool} {l : List (Ver NodV)} {k : Nat} {y : Ver NodV} (hy : l[k]? = some y) (hp : p y = true) (hn : ∀ (j : Nat) (z : Ver NodV), j < k → l[j]? = some z → p z = false) : place p l = k := by
  have : l.findIdx? p = some k := by
    rw [List.findIdx?_eq_some_iff_getElem]
    obtain ⟨hk, rfl⟩ := List.getElem?_eq_some_iff.1 hy
    exact ⟨hk, hp, fun j hj => by simpa using hn j _ hj (List.getElem?_eq_getElem (by omega))⟩
  simp [place, this]
set_option maxRecDepth 100000 in
theorem place_miss {p : Ver NodV → Bool} {l : List (Ver NodV)} (hn : ∀ (j : Nat) (z : Ver NodV), l[j]? = some z → p z = false) : place p l = -1 := by
  have : l.findIdx? p = none := by
    rw [List.findIdx?_eq_none_iff]
    intro x hx
    obtain ⟨j, hj⟩ := List.getElem?_of_mem hx
    exact hn j x hj
  simp [place, this]
set_option maxRecDepth 100000 in
theorem place_any (p : Ver NodV → Bool) (l : List (Ver NodV)) : decide (0 ≤ place p l) = l.any p := by
  unfold place
  cases h : l.findIdx? p with
  | none =>
    rw [List.findIdx?_eq_none_iff] at h
    have : l.any p = false := by simpa using h
    simp [this]
  | some i =>
    obtain ⟨hi, hp, _⟩ := List.findIdx?_eq_some_iff_getElem.1 h
    have : l.any p = true := List.any_eq_true.2 ⟨_, List.getElem_mem hi, hp⟩
    simp [this]


set_option maxHeartbeats 1000000 in
set_option maxRecDepth 100000 in
theorem index_undo (w : World) (A : Option Addr) (cap : Nat) (l : List (Ver NodV)) (lb : Array Value) (p : Ver NodV → Bool) (hl : (l.length : Int) ≤ 9223372036854775807) (h : VersO w.heap.size w A l)
    (ht : ∀ (W : World) (y : Ver NodV), y ∈ l → Below w.heap.size w W → Calls Tryz.prog 211 (#[encV y] ++ lb) W fun e W' => e = .returned (.bool (p y)) ∧ Below W.heap.size W W') (v : Int) (hv : place p l = v) :
    Calls Tryz.prog 249 #[.slice A l.length cap, .func (.func 211) #[] lb] w fun e w' => e = .returned (.int .i64 v) ∧ Below w.heap.size w w' := by
  have HV := hid hv
  clear hv
  go_enter Tryz.func249, Tryz.ntmps249
  go_wp2
  go_loopw [8] (fun i wr => ∃ k : Nat, k ≤ l.length ∧ i = .int .i64 (k : Int) ∧ (∀ (j : Nat) (z : Ver NodV), j < k → l[j]? = some z → p z = false) ∧ Below w.heap.size w wr) (fun i _ => l.length - (intOf i).toNat)
  case atStart => exact ⟨0, Nat.zero_le _, rfl, fun _ _ h => by omega, Below.refl _ _⟩
  case round =>
    obtain ⟨k, hk, rfl, hno, hb⟩ := hrel
    by_cases hlt : k < l.length
    · obtain ⟨y, hy⟩ : ∃ y, l[k]? = some y := ⟨_, List.getElem?_eq_getElem hlt⟩
      obtain ⟨g, o, rfl, hg, c0, c1, c2, cg⟩ := VersO.below hb h k y hy
      have ht' := ht
      have HT := hid ht
      have HY := hid hy
      have HN := hid hno
      have hm := List.mem_of_getElem? hy
      clear ht ht' h hy hno
      cases hp : p y
      all_goals
        have HP := hid hp
        clear hp
        go_wp2_with (go_at_call 211; refine (HT.out _ y hm hb).mono ?_; rintro e w' ⟨rfl, hb1⟩; rw [HP.out])
        first
        | (go_ret; exact ⟨by rw [← HV.out, place_hit HY.out HP.out HN.out]; rfl, hb.trans (hb1.mono hb.size)⟩)
        | (go_roundw
           case rel =>
             refine ⟨k + 1, by omega, by go_num, fun j z hj hz => ?_, hb.trans (hb1.mono hb.size)⟩
             rcases Nat.lt_succ_iff_lt_or_eq.1 hj with h1 | rfl
             · exact HN.out j z h1 hz
             · rw [HY.out] at hz; cases hz; exact HP.out
           case measure => simp [intOf]; omega)
    · obtain rfl : k = l.length := by omega
      have HN := hid hno
      clear hno
      go_wp2
      go_ret
      exact ⟨by rw [← HV.out, place_miss fun j z hz => HN.out j z (List.getElem?_eq_some_iff.1 hz).1 hz]; rfl, hb⟩

set_option maxHeartbeats 1000000 in
set_option maxRecDepth 100000 in
theorem index_wrote (w : World) (A : Option Addr) (cap : Nat) (l : List (Ver NodV)) (lb : Array Value) (p : Ver NodV → Bool) (hl : (l.length : Int) ≤ 9223372036854775807) (h : VersO w.heap.size w A l)
    (ht : ∀ (W : World) (y : Ver NodV), y ∈ l → Below w.heap.size w W → Calls Tryz.prog 269 (#[encV y] ++ lb) W fun e W' => e = .returned (.bool (p y)) ∧ Below W.heap.size W W') (v : Int) (hv : place p l = v) :
    Calls Tryz.prog 249 #[.slice A l.length cap, .func (.func 269) #[] lb] w fun e w' => e = .returned (.int .i64 v) ∧ Below w.heap.size w w' := by
  have HV := hid hv
  clear hv
  go_enter Tryz.func249, Tryz.ntmps249
  go_wp2
  go_loopw [8] (fun i wr => ∃ k : Nat, k ≤ l.length ∧ i = .int .i64 (k : Int) ∧ (∀ (j : Nat) (z : Ver NodV), j < k → l[j]? = some z → p z = false) ∧ Below w.heap.size w wr) (fun i _ => l.length - (intOf i).toNat)
  case atStart => exact ⟨0, Nat.zero_le _, rfl, fun _ _ h => by omega, Below.refl _ _⟩
  case round =>
    obtain ⟨k, hk, rfl, hno, hb⟩ := hrel
    by_cases hlt : k < l.length
    · obtain ⟨y, hy⟩ : ∃ y, l[k]? = some y := ⟨_, List.getElem?_eq_getElem hlt⟩
      obtain ⟨g, o, rfl, hg, c0, c1, c2, cg⟩ := VersO.below hb h k y hy
      have ht' := ht
      have HT := hid ht
      have HY := hid hy
      have HN := hid hno
      have hm := List.mem_of_getElem? hy
      clear ht ht' h hy hno
      cases hp : p y
      all_goals
        have HP := hid hp
        clear hp
        go_wp2_with (go_at_call 269; refine (HT.out _ y hm hb).mono ?_; rintro e w' ⟨rfl, hb1⟩; rw [HP.out])
        first
        | (go_ret; exact ⟨by rw [← HV.out, place_hit HY.out HP.out HN.out]; rfl, hb.trans (hb1.mono hb.size)⟩)
        | (go_roundw
           case rel =>
             refine ⟨k + 1, by omega, by go_num, fun j z hj hz => ?_, hb.trans (hb1.mono hb.size)⟩
             rcases Nat.lt_succ_iff_lt_or_eq.1 hj with h1 | rfl
             · exact HN.out j z h1 hz
             · rw [HY.out] at hz; cases hz; exact HP.out
           case measure => simp [intOf]; omega)
    · obtain rfl : k = l.length := by omega
      have HN := hid hno
      clear hno
      go_wp2
      go_ret
      exact ⟨by rw [← HV.out, place_miss fun j z hz => HN.out j z (List.getElem?_eq_some_iff.1 hz).1 hz]; rfl, hb⟩

set_option maxRecDepth 100000 in
theorem contains_wrote (w : World) (A : Option Addr) (cap : Nat) (l : List (Ver NodV)) (lb : Array Value) (p : Ver NodV → Bool) (hl : (l.length : Int) ≤ 9223372036854775807) (h : VersO w.heap.size w A l)
    (ht : ∀ (W : World) (y : Ver NodV), y ∈ l → Below w.heap.size w W → Calls Tryz.prog 269 (#[encV y] ++ lb) W fun e W' => e = .returned (.bool (p y)) ∧ Below W.heap.size W W') (v : Bool) (hv : l.any p = v) :
    Calls Tryz.prog 252 #[.slice A l.length cap, .func (.func 269) #[] lb] w fun e w' => e = .returned (.bool v) ∧ Below w.heap.size w w' := by
  have hq := (place_any p l).trans hv
  have HH := hid (index_wrote w A cap l lb p hl h ht _ rfl)
  clear ht h hv hl
  generalize hpl : place p l = q at HH hq
  clear hpl
  go_enter Tryz.func252, Tryz.ntmps252
  go_wp2_with (go_at_call 249; refine HH.out.mono ?_; rintro e w' ⟨rfl, hb1⟩)
  go_ret
  exact ⟨by rw [← hq]; rfl, hb1⟩

set_option maxRecDepth 100000 in
theorem undo1_S (w : World) (T : Nat) (t : Int) (y : Ver NodV) (hT : w.cell? ⟨T, 0, none⟩ = some (.int .i64 t)) (hl : T < w.heap.size) :
    Calls Tryz.prog 211 #[encV y, .pointer (some ⟨T, 0, none⟩)] w fun e w' => e = .returned (.bool (y.who == t)) ∧ Below w.heap.size w w' := by
  have hB : Below w.heap.size w (w.alloc (.cells #[.int .i64 y.who, .slice y.v.la y.v.ln y.v.lc, .slice y.v.pa y.v.pn y.v.pc, .bool y.gone] 272)) := (Below.refl _ w).alloc (Nat.le_refl _) _
  have hc := (hB.cell (p := ⟨T, 0, none⟩) hl).trans hT
  go_enter Tryz.func211, Tryz.ntmps211
  go_wp2
  go_ret
  exact ⟨by simp, hB⟩
set_option maxRecDepth 100000 in
theorem wrote1_S (w : World) (T : Nat) (t : Int) (y : Ver NodV) (hT : w.cell? ⟨T, 0, none⟩ = some (.int .i64 t)) (hl : T < w.heap.size) :
    Calls Tryz.prog 269 #[encV y, .pointer (some ⟨T, 0, none⟩)] w fun e w' => e = .returned (.bool (y.who == t)) ∧ Below w.heap.size w w' := by
  have hB : Below w.heap.size w (w.alloc (.cells #[.int .i64 y.who, .slice y.v.la y.v.ln y.v.lc, .slice y.v.pa y.v.pn y.v.pc, .bool y.gone] 272)) := (Below.refl _ w).alloc (Nat.le_refl _) _
  have hc := (hB.cell (p := ⟨T, 0, none⟩) hl).trans hT
  go_enter Tryz.func269, Tryz.ntmps269
  go_wp2
  go_ret
  exact ⟨by simp, hB⟩

set_option maxRecDepth 100000 in
theorem app1 (a b : Value) : (#[a] ++ #[b] : Array Value) = #[a, b] := by simp
theorem cel_wrote (w : World) (X : Nat) (A : Option Addr) (cap : Nat) (l : List (Ver NodV)) (t : Int) (h : CelA w X A cap l) (v : Bool) (hv : (l.any fun y => y.who == t) = v) :
    Calls Tryz.prog 203 #[.pointer (some ⟨X, 0, none⟩), .int .i64 t] w fun e w' => e = .returned (.bool v) ∧ Below w.heap.size w w' := by
  have hB : Below w.heap.size w (w.alloc (.cells #[.int .i64 t] 3)) := (Below.refl _ w).alloc (Nat.le_refl _) _
  have hA := h.below hB
  have hT := (Blk.new w 3 [.int .i64 t]).cell 0
  have hx := hA.blk.cell 0
  simp only [List.getElem?_cons_zero] at hT hx
  have HC := hid (contains_wrote _ A cap l #[.pointer (some ⟨w.heap.size, 0, none⟩)] (fun y => y.who == t) h.len hA.versO (fun W y _ hb => by
    rw [app1]
    exact wrote1_S W w.heap.size t y ((hb.cell (p := ⟨w.heap.size, 0, none⟩) (by simp)).trans hT) (by have := hb.size; simp at this; omega)) v hv)
  have HB := hid hB
  clear h hA hB hT hv
  go_enter Tryz.func203, Tryz.ntmps203
  go_wp2_with (go_at_call 252; refine HC.out.mono ?_; rintro e w' ⟨rfl, hb1⟩)
  go_ret
  exact ⟨rfl, HB.out.trans (hb1.mono (by simp))⟩

set_option maxRecDepth 100000 in
theorem delfunc_none (w : World) (A : Option Addr) (cap : Nat) (l : List (Ver NodV)) (T : Nat) (t : Int) (hl : (l.length : Int) ≤ 9223372036854775807) (h : VersO w.heap.size w A l) (hT : w.cell? ⟨T, 0, none⟩ = some (.int .i64 t)) (hTl : T < w.heap.size) (hv : place (fun y => y.who == t) l = -1) :
    Calls Tryz.prog 210 #[.slice A l.length cap, .func (.func 211) #[] #[.pointer (some ⟨T, 0, none⟩)]] w fun e w' => e = .returned (.slice A l.length cap) ∧ Below w.heap.size w w' := by
  have HI := hid (index_undo w A cap l #[.pointer (some ⟨T, 0, none⟩)] (fun y => y.who == t) hl h (fun W y _ hb => by
    rw [app1]
    exact undo1_S W T t y ((hb.cell (p := ⟨T, 0, none⟩) hTl).trans hT) (by have := hb.size; omega)) _ hv)
  clear h hv hT
  go_enter Tryz.func210, Tryz.ntmps210
  go_wp2_with (go_at_call 249; refine HI.out.mono ?_; rintro e w' ⟨rfl, hb1⟩)
  go_ret
  exact ⟨rfl, hb1⟩

set_option maxRecDepth 100000 in
theorem cel_undo_none (w : World) (X : Nat) (A : Option Addr) (cap : Nat) (l : List (Ver NodV)) (t : Int) (h : CelA w X A cap l) (hv : ∀ y ∈ l, (y.who == t) = false) :
    Calls Tryz.prog 126 #[.pointer (some ⟨X, 0, none⟩), .int .i64 t] w fun e w' => (∃ u, e = .returned u) ∧ CelA w' X A cap l ∧ Fr [X] w w' := by
  have hB : Below w.heap.size w (w.alloc (.cells #[.int .i64 t] 3)) := (Below.refl _ w).alloc (Nat.le_refl _) _
  have hA := h.below hB
  have hT := (Blk.new w 3 [.int .i64 t]).cell 0
  have hx := hA.blk.cell 0
  simp only [List.getElem?_cons_zero] at hT hx
  have HD := hid (delfunc_none _ A cap l w.heap.size t h.len hA.versO hT (by simp) (place_miss fun j z hz => hv z (List.mem_of_getElem? hz)))
  have HA := hid hA
  have HB := hid hB
  clear h hA hB hT hv
  go_enter Tryz.func126, Tryz.ntmps126
  go_wp2_with fail
  refine HD.out.mono ?_
  rintro e w2 ⟨rfl, hb⟩
  have HA2 := hid (HA.out.below hb)
  have HB2 := hid hb
  have e0 := HA2.out.blk.cell 0
  have e1 := HA2.out.blk.frozen 0
  simp only [List.getElem?_cons_zero] at e0
  clear hb hx HD
  go_wp2
  go_end0
  have hset := HA2.out.blk.set_ 0 (.slice A l.length cap)
  simp only [List.set_cons_zero] at hset
  have hne := own_ne HA2.out.own HA2.out.blk (by decide)
  exact ⟨⟨_, rfl⟩, ⟨hset, own_far HA2.out.own hne _⟩, (((Fr.refl [X] w).trans_same (Fr.of_below HB.out (Nat.le_refl _))).trans_same (Fr.of_below HB2.out (Nat.le_refl _))).setCell (.inl (by simp)) _⟩
end Go.Proofs.YtdfkdgnhpdgphaaGreatDoor.Nod
