/-
  A cell of values of several cells: slices.Backward over its versions. (Printed by mk/celgen.py.)
-/
import Derived.RangeFuncNested
import Derived.RangeFuncBound
import Derived.RangeFuncCalls
import Derived.RangeFuncLeaves
import Derived.RangeFuncBox
import Derived.WalkKit
import Derived.OwnWalkIn
import Derived.TacticsInMore
import Derived.LoopNIn
import Derived.LoopIn
import Derived.Test.YtdfkdgnhpdgphaaGreatDoorSkw16
namespace Go.Proofs.YtdfkdgnhpdgphaaGreatDoor.Edg
open Go.RowKit Go.Proofs.Lig
attribute [local go_sem] Oper.semAt_some

/-- What the k-th round of slices.Backward hands out. -/
def backAt (l : List (Ver EdgV)) (k : Nat) : Nat × Ver EdgV := (l.length - 1 - k, l[l.length - 1 - k]?.getD ⟨0, ⟨0, 0, ⟨#[]⟩, 0⟩, false⟩)
def backTo (l : List (Ver EdgV)) (k : Nat) : List (Nat × Ver EdgV) := (List.range k).map (backAt l)
set_option maxRecDepth 100000 in
theorem backTo_succ (l : List (Ver EdgV)) (k : Nat) : backTo l (k + 1) = backTo l k ++ [backAt l k] := by simp [backTo, List.range_succ]
theorem backTo_len (l : List (Ver EdgV)) (k : Nat) : (backTo l k).length = k := by simp [backTo]
theorem backTo_all (l : List (Ver EdgV)) : (backTo l l.length).map (·.2) = l.reverse := by
  apply List.ext_getElem
  · simp [backTo]
  · intro i h1 h2
    simp at h2
    simp [backTo, backAt, List.getElem_reverse]
    rw [List.getElem?_eq_getElem (by omega)]
    rfl
set_option maxRecDepth 100000 in
theorem backTo_take (l : List (Ver EdgV)) {k : Nat} (hk : k ≤ l.length) : (backTo l k).map (·.2) = l.reverse.take k := by
  rw [← backTo_all]
  simp [backTo, ← List.map_take, List.take_range, Nat.min_eq_left hk]

abbrev encBack (x : Nat × Ver EdgV) : Array Value := #[.int .i64 (x.1 : Int), .agg #[.int .i64 x.2.who, .int .i64 x.2.v.src, .int .i64 x.2.v.dst, .string x.2.v.ty, .float .f64 x.2.v.w, .bool x.2.gone]]

set_option maxRecDepth 100000 in
set_option maxHeartbeats 2000000 in
/-- slices.Backward's closure, whatever the loop's body that keeps what lay below n₀. -/
theorem back1_in (F : Fence) (n : Nat) (h7 : F.fn 238) (hro : F.round = none) (hn : 1 ≤ n) (lp Bs n₀ : Nat) (A : Option Addr) (cap : Nat) (l : List (Ver EdgV)) (hcap : (l.length : Int) ≤ 9223372036854775807) (J Jx : List (Nat × Ver EdgV) → World → Prop)
    (hY : ∀ pre x W, J pre W → pre.length < l.length → YieldAt F (n - 1) Tryz.prog lp (encBack x) W fun e W' =>
      (e = .returned (.bool true) ∧ J (pre ++ [x]) W' ∧ Below n₀ W W') ∨ (e = .returned (.bool false) ∧ Jx (pre ++ [x]) W'))
    (W : World) (hBs : W.cell? ⟨Bs, 0, none⟩ = some (.slice A l.length cap)) (hBn : Bs < n₀)
    (hc : ∀ j y, l[j]? = some y → ∃ g, A = some ⟨g, 0, none⟩ ∧ g < n₀ ∧ W.cell? ⟨g, j * 6, none⟩ = some (.int .i64 y.who) ∧ W.cell? ⟨g, j * 6 + 1, none⟩ = some (.int .i64 y.v.src) ∧ W.cell? ⟨g, j * 6 + 2, none⟩ = some (.int .i64 y.v.dst) ∧ W.cell? ⟨g, j * 6 + 3, none⟩ = some (.string y.v.ty) ∧ W.cell? ⟨g, j * 6 + 4, none⟩ = some (.float .f64 y.v.w) ∧ W.cell? ⟨g, j * 6 + 5, none⟩ = some (.bool y.gone)) (h0 : J [] W) :
    CallsIn F n Tryz.prog 238 #[.func (.yield lp) #[] #[], .pointer (some ⟨Bs, 0, none⟩)] W fun e W' => (∃ v, e = .returned v) ∧
      ((∃ ys, ys.map (·.2) = l.reverse ∧ J ys W') ∨ (∃ pre, pre.map (·.2) <+: l.reverse ∧ Jx pre W')) := by
  refine callsIn_of_wp Tryz.func238 rfl h7 ?_ hro
  simp only [Tryz.ntmps238, List.size_toArray, List.length_cons, List.length_nil, Nat.reduceAdd, Nat.reduceSub, Array.replicate_succ, Array.replicate_zero, List.push_toArray, List.append_toArray, List.nil_append, List.cons_append]
  gi_wp2
  gi_loopw [3] (fun i wr => ∃ k : Nat, k ≤ l.length ∧ i = .int .i64 ((l.length : Int) - 1 - k) ∧ J (backTo l k) wr ∧ Below n₀ W wr)
    (fun i _ => (intOf i + 1).toNat)
  case atStart => exact ⟨0, Nat.zero_le _, by simp, h0, Below.refl _ _⟩
  case round =>
    obtain ⟨k, hk, rfl, hJs, hnx⟩ := hrel
    have hb0 := (hnx.cell (p := ⟨Bs, 0, none⟩) hBn).trans hBs
    by_cases hlt : k < l.length
    · obtain ⟨fn, tmps, assign, body, hy, hR⟩ := hY _ (backAt l k) wr hJs (by rw [backTo_len]; exact hlt)
      have hidx : (((backAt l k).1 : Nat) : Int) = (l.length : Int) - 1 - k := by simp [backAt]; omega
      obtain ⟨g, hA, hg, c0, c1, c2, c3, c4, cg⟩ := hc (l.length - 1 - k) (backAt l k).2 (by simp only [backAt]; rw [List.getElem?_eq_getElem (by omega)]; rfl)
      have d0 := (hnx.cell (p := ⟨g, _, none⟩) hg).trans c0
      have d1 := (hnx.cell (p := ⟨g, _, none⟩) hg).trans c1
      have d2 := (hnx.cell (p := ⟨g, _, none⟩) hg).trans c2
      have d3 := (hnx.cell (p := ⟨g, _, none⟩) hg).trans c3
      have d4 := (hnx.cell (p := ⟨g, _, none⟩) hg).trans c4
      have dg := (hnx.cell (p := ⟨g, _, none⟩) hg).trans cg
      simp only [encBack, hidx] at hy
      have hr : (backTo l k ++ [backAt l k]) = backTo l (k + 1) := (backTo_succ l k).symm
      rw [hr] at hR
      generalize hyv : (backAt l k).2 = yv at hy d0 d1 d2 d3 d4 dg hR
      generalize hnat : l.length - 1 - k = jn at d0 d1 d2 d3 d4 dg
      obtain ⟨j', hj'⟩ : ∃ j' : Nat, j' = jn := ⟨_, rfl⟩
      have hjI : (l.length : Int) - 1 - k = (jn : Int) := by omega
      rw [hjI] at hy ⊢
      have hjl : jn < l.length := by omega
      subst hA
      have HR := hid hR
      clear hR hc c0 c1 c2 c3 c4 cg hY hBs
      gi_wp2
      refine HR.out.mono ?_
      rintro e W3 (⟨rfl, hJ3, hk3⟩ | ⟨rfl, hJx3⟩)
      · gi_wp2
        go_roundw
        case rel => exact ⟨k + 1, by omega, by congr 1; omega, hJ3, hnx.trans hk3⟩
        case measure => simp [intOf]
      · gi_wp2
        refine bodyPost_ret (results_none rfl _ _ _) rfl ?_
        exact ⟨⟨_, rfl⟩, .inr ⟨_, by rw [backTo_take l (by omega)]; exact List.take_prefix _ _, hJx3⟩⟩
    · obtain rfl : k = l.length := by omega
      gi_wp2
      go_end0
      exact ⟨⟨_, rfl⟩, .inl ⟨_, backTo_all l, hJs⟩⟩

set_option maxHeartbeats 1000000 in
set_option maxRecDepth 100000 in
/-- slices.Backward: the slice is boxed; the function value captures the box. -/
theorem backward_in (F : Fence) (n : Nat) (h5 : F.fn 161) (hro : F.round = none) (a : Option Addr) (len cap : Nat) (w : World) :
    CallsIn F n Tryz.prog 161 #[.slice a len cap] w fun e w' => e = .returned (.func (.func 238) #[] #[.pointer (some ⟨w.heap.size, 0, none⟩)]) ∧ w' = w.alloc (.cells #[.slice a len cap] 278) := by
  refine callsIn_of_wp Tryz.func161 rfl h5 ?_ hro
  simp only [Tryz.ntmps161, List.size_toArray, List.length_cons, List.length_nil, Nat.reduceAdd, Nat.reduceSub, Array.replicate_succ, Array.replicate_zero, List.push_toArray, List.append_toArray, List.nil_append, List.cons_append]
  gi_wp2
  go_ret
  exact ⟨rfl, rfl⟩

/-- The versions l lie below n₀, at the slice value sv. -/
def Vers (n₀ : Nat) (W : World) (A : Option Addr) (l : List (Ver EdgV)) : Prop :=
  ∀ j y, l[j]? = some y → ∃ g, A = some ⟨g, 0, none⟩ ∧ g < n₀ ∧ W.cell? ⟨g, j * 6, none⟩ = some (.int .i64 y.who) ∧ W.cell? ⟨g, j * 6 + 1, none⟩ = some (.int .i64 y.v.src) ∧ W.cell? ⟨g, j * 6 + 2, none⟩ = some (.int .i64 y.v.dst) ∧ W.cell? ⟨g, j * 6 + 3, none⟩ = some (.string y.v.ty) ∧ W.cell? ⟨g, j * 6 + 4, none⟩ = some (.float .f64 y.v.w) ∧ W.cell? ⟨g, j * 6 + 5, none⟩ = some (.bool y.gone)
set_option maxRecDepth 100000 in
theorem Vers.below {n₀ : Nat} {A B : World} (h : Below n₀ A B) {a : Option Addr} {l : List (Ver EdgV)} (hv : Vers n₀ A a l) : Vers n₀ B a l := fun j y hy => by
  obtain ⟨g, e, hg, c0, c1, c2, c3, c4, cg⟩ := hv j y hy
  exact ⟨g, e, hg, (h.cell (p := ⟨g, _, none⟩) hg).trans c0, (h.cell (p := ⟨g, _, none⟩) hg).trans c1, (h.cell (p := ⟨g, _, none⟩) hg).trans c2, (h.cell (p := ⟨g, _, none⟩) hg).trans c3, (h.cell (p := ⟨g, _, none⟩) hg).trans c4, (h.cell (p := ⟨g, _, none⟩) hg).trans cg⟩

set_option maxRecDepth 100000 in
/-- slices.Backward hands back a value that hands out the versions from behind: all of them, or some first ones. -/
theorem backward_stops (F : Fence) (n : Nat) (h7 : F.fn 238) (hro : F.round = none) (hn : 1 ≤ n) (Bs n₀ : Nat) (A : Option Addr) (cap : Nat) (l : List (Ver EdgV)) (hcap : (l.length : Int) ≤ 9223372036854775807) (w : World) (hBs : Bs < w.heap.size) (hBn : Bs < n₀) (hn₀ : n₀ ≤ w.heap.size)
    (hc : w.cell? ⟨Bs, 0, none⟩ = some (.slice A l.length cap)) (hI : Vers n₀ w A l) :
    SeqStopsK F n Tryz.prog 238 #[.pointer (some ⟨Bs, 0, none⟩)] encBack (Below n₀) (fun ys => ys.map (·.2) = l.reverse) (fun pre => pre.map (·.2) <+: l.reverse) l.length w := fun lp J Jx W hW _ _ hY h0 => by
  have hc' := (hW.cell (p := ⟨Bs, 0, none⟩) hBs).trans hc
  exact back1_in F n h7 hro hn lp Bs n₀ A cap l hcap J Jx hY W hc' hBn (Vers.below (hW.mono hn₀) hI) h0
end Go.Proofs.YtdfkdgnhpdgphaaGreatDoor.Edg
