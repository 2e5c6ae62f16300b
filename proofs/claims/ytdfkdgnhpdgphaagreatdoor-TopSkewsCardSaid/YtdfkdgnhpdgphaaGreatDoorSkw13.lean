/-
  A cell of values of several cells: last, over whatever is meant. (Printed by mk/celgen.py.)
-/
import Derived.Shelf.Abstract
import Derived.Test.YtdfkdgnhpdgphaaGreatDoorSkw12
namespace Go.Proofs.YtdfkdgnhpdgphaaGreatDoor.Nod
open Go.RowKit Go.Shelf Go.Proofs.Lig
attribute [local go_sem] run_store_float
attribute [local go_sem] Oper.semAt_some

set_option maxRecDepth 100000 in
theorem CelA.vers {w : World} {X : Nat} {A : Option Addr} {cap : Nat} {l : List (Ver NodV)} (h : CelA w X A cap l) : Vers w.heap.size w A l := fun j y hy => by
  obtain ⟨g, rfl, hg⟩ := h.form (by have := (List.getElem?_eq_some_iff.1 hy).1; omega)
  exact ⟨g, rfl, hg, row_ver h.own hy⟩
set_option maxRecDepth 100000 in
theorem keepsFrom_of_below {W W' : World} (h : Below W.heap.size W W') (B : Nat) : KeepsFrom B W W' :=
  ⟨h.size, fun i _ _ hi _ => (h.block i (Array.getElem?_eq_some_iff.1 hi).1).trans hi⟩

set_option maxRecDepth 100000 in
theorem lastBy_none {p : Int → Bool} {l : List (Ver NodV)} {ys : List (Nat × Ver NodV)} (e : ys.map (·.2) = l.reverse) (h : ∀ x ∈ ys, p x.2.who = false) : Cel.lastBy p l = none := by
  unfold Cel.lastBy
  rw [← e, List.find?_eq_none.2 (by intro y hy; obtain ⟨x, hx, rfl⟩ := List.mem_map.1 hy; simpa using h x hx)]
set_option maxRecDepth 100000 in
theorem lastBy_hit {p : Int → Bool} {l : List (Ver NodV)} {pre ini : List (Nat × Ver NodV)} {last : Nat × Ver NodV} (e : pre.map (·.2) <+: l.reverse) (e1 : pre = ini ++ [last]) (h : ∀ x ∈ ini, p x.2.who = false) (hl : p last.2.who = true) : Cel.lastBy p l = if last.2.gone then none else some last.2.v := by
  obtain ⟨r, hr⟩ := e
  unfold Cel.lastBy
  rw [← hr, e1]
  have : (ini.map (·.2)).find? (fun y => p y.who) = none := List.find?_eq_none.2 (by intro y hy; obtain ⟨x, hx, rfl⟩ := List.mem_map.1 hy; simpa using h x hx)
  simp only [List.map_append, List.map_cons, List.map_nil, List.append_assoc, List.find?_append, this, List.cons_append, List.nil_append, List.find?_cons, hl, Option.none_or]

set_option maxRecDepth 100000 in
set_option maxHeartbeats 4000000 in
theorem cel_last_in (F : Fence) (hall : ∀ f, F.fn f) (hro : F.round = none) (w : World) (X : Nat) (A : Option Addr) (cap : Nat) (l : List (Ver NodV)) (lb : Array Value) (p : Int → Bool) (h : CelA w X A cap l)
    (ht : ∀ (W : World) (who : Int), Below w.heap.size w W → CallsIn F 0 Tryz.prog 270 (#[.int .i64 who] ++ lb) W fun e W' => e = .returned (.bool (p who)) ∧ Below W.heap.size W W') :
    CallsIn F 3 Tryz.prog 84 #[.pointer (some ⟨X, 0, none⟩), .func (.func 270) #[] lb] w fun e w' =>
      (∃ v : NodV, e = .returned (.tuple #[.agg #[.slice v.la v.ln v.lc, .slice v.pa v.pn v.pc], .bool (Cel.lastBy p l).isSome]) ∧ v = (Cel.lastBy p l).getD ⟨none, 0, 0, none, 0, 0⟩) ∧ Below w.heap.size w w' := by
  have h75 : F.fn 160 := hall _
  have h84 : F.fn 237 := hall _
  have hfm : F.fn 270 := hall _
  have hc0 := h.blk.cell 0
  have hXl := h.blk.lt
  simp only [List.getElem?_cons_zero] at hc0
  have hB3 : Below w.heap.size w (((w.alloc (.cells #[.func (.func 270) #[] lb] 172)).alloc (.cells #[.slice none 0 0, .slice none 0 0] 35)).alloc (.cells #[.bool false] 4)) := (((Below.refl _ w).alloc (Nat.le_refl _) _).alloc (by simp) _).alloc (by simp; omega) _
  have hc1 := (hB3.cell (p := ⟨X, 0, none⟩) hXl).trans hc0
  refine callsIn_of_wp_marks Tryz.func84 rfl (hall _) ?_ hro
  simp only [Tryz.ntmps84, List.size_toArray, List.length_cons, List.length_nil, Nat.reduceAdd, Nat.reduceSub, Array.replicate_succ, Array.replicate_zero, List.push_toArray, List.append_toArray, List.nil_append, List.cons_append]
  gi_wp2_with (gi_at_call 160; refine (backward_in F _ h75 hro _ _ _ _).mono ?_; rintro e w' ⟨rfl, rfl⟩)
  have bM := Boxed.new w 172 (.func (.func 270) #[] lb)
  have bV := Blk.new (w.alloc (.cells #[.func (.func 270) #[] lb] 172)) 35 [.slice none 0 0, .slice none 0 0]
  have bO := Blk.new ((w.alloc (.cells #[.func (.func 270) #[] lb] 172)).alloc (.cells #[.slice none 0 0, .slice none 0 0] 35)) 4 [.bool false]
  have bN := Boxed.new (((w.alloc (.cells #[.func (.func 270) #[] lb] 172)).alloc (.cells #[.slice none 0 0, .slice none 0 0] 35)).alloc (.cells #[.bool false] 4)) 270 (.slice A l.length cap)
  simp only [World.size_alloc] at bV bO bN
  have bM4 := ((bM.alloc (.cells #[.slice none 0 0, .slice none 0 0] 35)).alloc (.cells #[.bool false] 4)).alloc (.cells #[.slice A l.length cap] 270)
  have bV4 := (bV.alloc (.cells #[.bool false] 4)).alloc (.cells #[.slice A l.length cap] 270)
  have bO4 := bO.alloc (.cells #[.slice A l.length cap] 270)
  have hB4 := hB3.alloc (by simp; omega) (.cells #[.slice A l.length cap] 270)
  generalize hW0 : ((((w.alloc (.cells #[.func (.func 270) #[] lb] 172)).alloc (.cells #[.slice none 0 0, .slice none 0 0] 35)).alloc (.cells #[.bool false] 4)).alloc (.cells #[.slice A l.length cap] 270)) = W0 at *
  have hsz : W0.heap.size = w.heap.size + 4 := by rw [← hW0]; simp
  clear hB3 hc1 bM bV bO hW0
  refine wpIn_rangeFunc_ownH (α := Nat × Ver NodV) hro (by omega) (gf := 237) (lb := #[.pointer (some ⟨w.heap.size + 1 + 1 + 1, 0, none⟩)]) rfl h84 (enters_of Tryz.func237 (by kernel_rfl) rfl)
    (backward_stops F 2 h84 hro (by omega) (w.heap.size + 1 + 1 + 1) (w.heap.size + 4) A cap l h.len W0 (by omega) (by omega) (by omega) bN.cell (fun j y hy => by
      obtain ⟨g, e, hg, c⟩ := Vers.below hB4 h.vers j y hy
      exact ⟨g, e, by omega, c⟩)) belowK_t (belowK_b (by omega)) (Below.refl _ _) (fun _ => rfl)
    (fun pre W => (∀ x ∈ pre, p x.2.who = false) ∧ Below (w.heap.size + 4) W0 W)
    (fun c pre W => (c = .ret ∧ ∃ ini last, pre = ini ++ [last] ∧ (∀ x ∈ ini, p x.2.who = false) ∧ p last.2.who = true ∧ W.cell? ⟨w.heap.size + 1, 0, none⟩ = some (if last.2.gone then (.slice none 0 0) else (.slice last.2.v.la last.2.v.ln last.2.v.lc)) ∧ W.cell? ⟨w.heap.size + 1, 1, none⟩ = some (if last.2.gone then (.slice none 0 0) else (.slice last.2.v.pa last.2.v.pn last.2.v.pc)) ∧ W.cell? ⟨w.heap.size + 1 + 1, 0, none⟩ = some (.bool (!last.2.gone))) ∧ Below w.heap.size w W)
    (OwnFrom.and (fun _ _ _ _ hs _ _ => hs) (ownFrom_below (by omega) (by omega)))
    (fun c => OwnFrom.and (Own.from (fun s A B row hs hg hr => by obtain ⟨hc, ini, last, e1, e2, e3, q1, q2, e5⟩ := hs; exact ⟨hc, ini, last, e1, e2, e3, cell_kept q1 hg hr, cell_kept q2 hg hr, cell_kept e5 hg hr⟩) _) (ownFrom_below (Nat.le_refl _) (by omega)))
    ⟨by simp, Below.refl _ _⟩
    (fun x a' W => ∃ B : Nat, w.heap.size + 4 ≤ B ∧ Blk W B 272 [.int .i64 x.2.who, .slice x.2.v.la x.2.v.ln x.2.v.lc, .slice x.2.v.pa x.2.v.pn x.2.v.pc, .bool x.2.gone] ∧ a' = { tmps := #[.pointer (some ⟨X, 0, none⟩), .func (.func 270) #[] lb, undef, .pointer (some ⟨w.heap.size, 0, none⟩), .pointer (some ⟨w.heap.size + 1, 0, none⟩), .pointer (some ⟨w.heap.size + 1 + 1, 0, none⟩), undef, .pointer (some ⟨B, 0, none⟩), .pointer (some ⟨X, 0, none⟩), .bool false, undef, .pointer (some ⟨X, 0, none⟩), .pointer (some ⟨X, 0, none⟩), .pointer (some ⟨X, 0, none⟩), .slice A l.length cap, .func (.func 237) #[] #[.pointer (some ⟨w.heap.size + 1 + 1 + 1, 0, none⟩)], .int .i64 (x.1 : Int), .agg #[.int .i64 x.2.who, .slice x.2.v.la x.2.v.ln x.2.v.lc, .slice x.2.v.pa x.2.v.pn x.2.v.pc, .bool x.2.gone], undef, undef, undef, undef, undef, undef, undef, undef, undef, undef, undef], defers := [] })
    ?axown ?assign ?body ?done ?stop
  case axown =>
    rintro x a' _ W1 W2 row ⟨B, hB, hb, e⟩ hg hr
    refine ⟨B, hB, hb.grown hg ?_, e⟩
    rintro rfl
    obtain ⟨_, o, ho, hc⟩ := hr B rfl
    unfold Blk at hb
    rw [hb] at ho
    cases ho
    simp [Obj.isCells] at hc
  case assign =>
    intro lo pre x W K hI hK
    gi_wp2
    exact hK _ _ ((KeepsOthers.alloc W _).from _) ((Below.refl _ W).alloc (by have := hI.2.size; omega) _) ⟨hI.1, hI.2.alloc (by have := hI.2.size; omega) _⟩ ⟨W.heap.size, by have := hI.2.size; omega, Blk.new W 272 [.int .i64 x.2.who, .slice x.2.v.la x.2.v.ln x.2.v.lc, .slice x.2.v.pa x.2.v.pn x.2.v.pc, .bool x.2.gone], rfl⟩
  case body =>
    rintro lo pre x a' W hlo hrec ⟨hpre, hBW⟩ ⟨B, hB, hb, rfl⟩ hlt
    have c0 := hb.cell 0
    have c1 := hb.cell 1
    have c2 := hb.cell 2
    have cg := hb.cell 3
    simp only [List.getElem?_cons_zero, List.getElem?_cons_succ] at c0 c1 c2 cg
    have hBw : Below w.heap.size w W := hB4.trans (hBW.mono (by omega))
    have m0 := (hBW.cell (p := ⟨w.heap.size, 0, none⟩) (by simp)).trans bM4.cell
    have v1 := (hBW.cell (p := ⟨w.heap.size + 1, 0, none⟩) (by simp)).trans (bV4.cell 0)
    have f1 := (hBW.frozen (p := ⟨w.heap.size + 1, 0, none⟩) (by simp)).trans (bV4.frozen 0)
    have v2 := (hBW.cell (p := ⟨w.heap.size + 1, 1, none⟩) (by simp)).trans (bV4.cell 1)
    have f2 := (hBW.frozen (p := ⟨w.heap.size + 1, 1, none⟩) (by simp)).trans (bV4.frozen 1)
    simp only [List.getElem?_cons_zero, List.getElem?_cons_succ] at v1 v2 
    have o0 := (hBW.cell (p := ⟨w.heap.size + 1 + 1, 0, none⟩) (by simp)).trans (bO4.cell 0)
    have o1 := (hBW.frozen (p := ⟨w.heap.size + 1 + 1, 0, none⟩) (by simp)).trans (bO4.frozen 0)
    simp only [List.getElem?_cons_zero] at o0
    obtain ⟨xi, ⟨who, v, gone⟩⟩ := x
    have ht' := ht W who hBw
    dsimp only at *
    have hb' := hid hb
    clear hb
    cases hp : p who
    · rw [hp] at ht'
      gi_wp2_with (gi_at_call 270; refine (CallsIn.inRound lo ht').mono ?_; rintro e w' ⟨rfl, hb1⟩)
      exact ⟨keepsFrom_of_below hb1 _, hb1.mono (by have := hBW.size; omega), fun x hx => (List.mem_append.1 hx).elim (hpre x) (fun e => by simp at e; subst e; exact hp), hBW.trans (hb1.mono (by have := hBW.size; omega))⟩
    · rw [hp] at ht'
      cases gone
      · gi_wp2_with (gi_at_call 270; refine (CallsIn.inRound lo ht').mono ?_; rintro e w' ⟨rfl, hb1⟩; have hsW := hBW.size; replace c0 := (hb1.cell (p := ⟨B, 0, none⟩) hb'.out.lt).trans c0; replace c1 := (hb1.cell (p := ⟨B, 1, none⟩) hb'.out.lt).trans c1; replace c2 := (hb1.cell (p := ⟨B, 2, none⟩) hb'.out.lt).trans c2; replace cg := (hb1.cell (p := ⟨B, 3, none⟩) hb'.out.lt).trans cg; replace v1 := (hb1.cell (p := ⟨w.heap.size + 1, 0, none⟩) (by simp; omega)).trans v1; replace f1 := (hb1.frozen (p := ⟨w.heap.size + 1, 0, none⟩) (by simp; omega)).trans f1; replace v2 := (hb1.cell (p := ⟨w.heap.size + 1, 1, none⟩) (by simp; omega)).trans v2; replace f2 := (hb1.frozen (p := ⟨w.heap.size + 1, 1, none⟩) (by simp; omega)).trans f2;  replace o0 := (hb1.cell (p := ⟨w.heap.size + 1 + 1, 0, none⟩) (by simp; omega)).trans o0; replace o1 := (hb1.frozen (p := ⟨w.heap.size + 1 + 1, 0, none⟩) (by simp; omega)).trans o1)
        have bVw : Blk w' (w.heap.size + 1) 35 [.slice none 0 0, .slice none 0 0] := (hb1.block _ (by omega)).trans ((hBW.block _ (by omega)).trans bV4)
        have bOw : Blk w' (w.heap.size + 1 + 1) 4 [.bool false] := (hb1.block _ (by omega)).trans ((hBW.block _ (by omega)).trans bO4)
        have VV := ((bVw.set_ 0 (.slice v.la v.ln v.lc)).set_ 1 (.slice v.pa v.pn v.pc)).far (p := ⟨w.heap.size + 1 + 1, 0, none⟩) (by simp) (.bool true)
        have OO := ((bOw.far (p := ⟨w.heap.size + 1, 0, none⟩) (by simp) (.slice v.la v.ln v.lc)).far (p := ⟨w.heap.size + 1, 1, none⟩) (by simp) (.slice v.pa v.pn v.pc)).set_ 0 (.bool true)
        exact ⟨(keepsFrom_of_below hb1 _).trans ((((KeepsOthers.setCell _ _ _).trans (KeepsOthers.setCell _ _ _)).trans (KeepsOthers.setCell _ _ _)).from _), ⟨rfl, pre, _, rfl, hpre, hp, (VV.cell 0).trans rfl, (VV.cell 1).trans rfl, (OO.cell 0).trans rfl⟩, ((((hBw.trans (hb1.mono (by omega))).setCell (p := ⟨w.heap.size + 1, 0, none⟩) (by simp) _).setCell (p := ⟨w.heap.size + 1, 1, none⟩) (by simp) _).setCell (p := ⟨w.heap.size + 1 + 1, 0, none⟩) (by simp; omega) _)⟩
      · gi_wp2_with (gi_at_call 270; refine (CallsIn.inRound lo ht').mono ?_; rintro e w' ⟨rfl, hb1⟩; have hsW := hBW.size; replace c0 := (hb1.cell (p := ⟨B, 0, none⟩) hb'.out.lt).trans c0; replace c1 := (hb1.cell (p := ⟨B, 1, none⟩) hb'.out.lt).trans c1; replace c2 := (hb1.cell (p := ⟨B, 2, none⟩) hb'.out.lt).trans c2; replace cg := (hb1.cell (p := ⟨B, 3, none⟩) hb'.out.lt).trans cg; replace v1 := (hb1.cell (p := ⟨w.heap.size + 1, 0, none⟩) (by simp; omega)).trans v1; replace f1 := (hb1.frozen (p := ⟨w.heap.size + 1, 0, none⟩) (by simp; omega)).trans f1; replace v2 := (hb1.cell (p := ⟨w.heap.size + 1, 1, none⟩) (by simp; omega)).trans v2; replace f2 := (hb1.frozen (p := ⟨w.heap.size + 1, 1, none⟩) (by simp; omega)).trans f2;  replace o0 := (hb1.cell (p := ⟨w.heap.size + 1 + 1, 0, none⟩) (by simp; omega)).trans o0; replace o1 := (hb1.frozen (p := ⟨w.heap.size + 1 + 1, 0, none⟩) (by simp; omega)).trans o1)
        have bVw : Blk w' (w.heap.size + 1) 35 [.slice none 0 0, .slice none 0 0] := (hb1.block _ (by omega)).trans ((hBW.block _ (by omega)).trans bV4)
        have bOw : Blk w' (w.heap.size + 1 + 1) 4 [.bool false] := (hb1.block _ (by omega)).trans ((hBW.block _ (by omega)).trans bO4)
        have VV := ((bVw.set_ 0 (.slice none 0 0)).set_ 1 (.slice none 0 0)).far (p := ⟨w.heap.size + 1 + 1, 0, none⟩) (by simp) (.bool false)
        have OO := ((bOw.far (p := ⟨w.heap.size + 1, 0, none⟩) (by simp) (.slice none 0 0)).far (p := ⟨w.heap.size + 1, 1, none⟩) (by simp) (.slice none 0 0)).set_ 0 (.bool false)
        exact ⟨(keepsFrom_of_below hb1 _).trans ((((KeepsOthers.setCell _ _ _).trans (KeepsOthers.setCell _ _ _)).trans (KeepsOthers.setCell _ _ _)).from _), ⟨rfl, pre, _, rfl, hpre, hp, (VV.cell 0).trans rfl, (VV.cell 1).trans rfl, (OO.cell 0).trans rfl⟩, ((((hBw.trans (hb1.mono (by omega))).setCell (p := ⟨w.heap.size + 1, 0, none⟩) (by simp) _).setCell (p := ⟨w.heap.size + 1, 1, none⟩) (by simp) _).setCell (p := ⟨w.heap.size + 1 + 1, 0, none⟩) (by simp; omega) _)⟩
  case done =>
    rintro D ys W hD hys ⟨hne, hBW⟩ hK
    have v1 := (hBW.cell (p := ⟨w.heap.size + 1, 0, none⟩) (by simp)).trans (bV4.cell 0)
    have f1 := (hBW.frozen (p := ⟨w.heap.size + 1, 0, none⟩) (by simp)).trans (bV4.frozen 0)
    have v2 := (hBW.cell (p := ⟨w.heap.size + 1, 1, none⟩) (by simp)).trans (bV4.cell 1)
    have f2 := (hBW.frozen (p := ⟨w.heap.size + 1, 1, none⟩) (by simp)).trans (bV4.frozen 1)
    simp only [List.getElem?_cons_zero, List.getElem?_cons_succ] at v1 v2 
    have o0 := (hBW.cell (p := ⟨w.heap.size + 1 + 1, 0, none⟩) (by simp)).trans (bO4.cell 0)
    have o1 := (hBW.frozen (p := ⟨w.heap.size + 1 + 1, 0, none⟩) (by simp)).trans (bO4.frozen 0)
    simp only [List.getElem?_cons_zero] at o0
    have hys' := hid hys
    clear hys
    gi_wp2
    have hK' : (((W.setCell ⟨w.heap.size + 1, 0, none⟩ (.slice none 0 0)).setCell ⟨w.heap.size + 1, 1, none⟩ (.slice none 0 0)).setCell ⟨w.heap.size + 1 + 1, 0, none⟩ (.bool false)).heap[D]? = some (.deferred (some [])) := (((KeepsOthers.setCell _ _ _).trans (KeepsOthers.setCell _ _ _)).trans (KeepsOthers.setCell _ _ _)).same D _ hK rfl
    have bVw : Blk W (w.heap.size + 1) 35 [.slice none 0 0, .slice none 0 0] := (hBW.block _ (by omega)).trans bV4
    have bOw : Blk W (w.heap.size + 1 + 1) 4 [.bool false] := (hBW.block _ (by omega)).trans bO4
    have VV := ((bVw.set_ 0 (.slice none 0 0)).set_ 1 (.slice none 0 0)).far (p := ⟨w.heap.size + 1 + 1, 0, none⟩) (by simp) (.bool false)
    have OO := ((bOw.far (p := ⟨w.heap.size + 1, 0, none⟩) (by simp) (.slice none 0 0)).far (p := ⟨w.heap.size + 1, 1, none⟩) (by simp) (.slice none 0 0)).set_ 0 (.bool false)
    have g1 := cell_kept ((VV.cell 0).trans rfl) (grownBy_putObj' _ D (.deferred none)) (fun r e => by cases e; exact ⟨_, hK', rfl⟩)
    have g2 := cell_kept ((VV.cell 1).trans rfl) (grownBy_putObj' _ D (.deferred none)) (fun r e => by cases e; exact ⟨_, hK', rfl⟩)
    have f2 := cell_kept ((OO.cell 0).trans rfl) (grownBy_putObj' _ D (.deferred none)) (fun r e => by cases e; exact ⟨_, hK', rfl⟩)
    have hBe : Below w.heap.size w (((W.setCell ⟨w.heap.size + 1, 0, none⟩ (.slice none 0 0)).setCell ⟨w.heap.size + 1, 1, none⟩ (.slice none 0 0)).setCell ⟨w.heap.size + 1 + 1, 0, none⟩ (.bool false)) := ((((hB4.trans (hBW.mono (by omega))).setCell (p := ⟨w.heap.size + 1, 0, none⟩) (by simp) _).setCell (p := ⟨w.heap.size + 1, 1, none⟩) (by simp) _).setCell (p := ⟨w.heap.size + 1 + 1, 0, none⟩) (by simp; omega) _)
    refine ⟨by simp, .inl ⟨_, _, rfl, run_takeDeferred hK', .tuple #[.agg #[.slice none 0 0, .slice none 0 0], .bool false], ?_, ⟨⟨none, 0, 0, none, 0, 0⟩, ?_, ?_⟩, ?_⟩⟩
    · simp [results, Tryz.f84, go_sem, g1, g2, f2]
    · rw [lastBy_none hys'.out hne]; rfl
    · rw [lastBy_none hys'.out hne]; rfl
    · exact hBe.trans (belowK_b (w := w) (Nat.le_refl _) _ D _ _ (by omega) hK' rfl rfl)
  case stop =>
    rintro D c pre W hD hpre ⟨⟨rfl, ini, last, e1, e2, e3, q1, q2, e5⟩, hB⟩ hK
    have HP := hid hpre
    have HE := hid e1
    clear hpre e1
    gi_wp2
    have g1 := cell_kept q1 (grownBy_putObj' _ D (.deferred none)) (fun r e => by cases e; exact ⟨_, hK, rfl⟩)
    have g2 := cell_kept q2 (grownBy_putObj' _ D (.deferred none)) (fun r e => by cases e; exact ⟨_, hK, rfl⟩)
    have hh := trivial
    have f2 := cell_kept e5 (grownBy_putObj' _ D (.deferred none)) (fun r e => by cases e; exact ⟨_, hK, rfl⟩)
    refine ⟨by simp, .inl ⟨_, _, rfl, run_takeDeferred hK, .tuple #[.agg #[if last.2.gone = true then (.slice none 0 0) else (.slice last.2.v.la last.2.v.ln last.2.v.lc), if last.2.gone = true then (.slice none 0 0) else (.slice last.2.v.pa last.2.v.pn last.2.v.pc)], .bool (!last.2.gone)], ?_, ⟨(if last.2.gone = true then ⟨none, 0, 0, none, 0, 0⟩ else last.2.v), ?_, ?_⟩, ?_⟩⟩
    · simp [results, Tryz.f84, go_sem, g1, g2, f2]
    · rw [lastBy_hit HP.out HE.out e2 e3]
      cases last.2.gone <;> rfl
    · rw [lastBy_hit HP.out HE.out e2 e3]
      cases last.2.gone <;> rfl
    · exact hB.trans (belowK_b (w := w) (Nat.le_refl _) _ D _ _ (by omega) hK rfl rfl)
end Go.Proofs.YtdfkdgnhpdgphaaGreatDoor.Nod

/-
  A cell of values of several cells: last, over what Last's closure means. (Printed by mk/celgen.py.)
-/
namespace Go.Proofs.YtdfkdgnhpdgphaaGreatDoor.Nod
open Go.RowKit Go.Shelf Go.Proofs.Lig
attribute [local go_sem] run_store_float
attribute [local go_sem] Oper.semAt_some

set_option maxRecDepth 100000 in
set_option maxHeartbeats 4000000 in
theorem cel_lastL_in (F : Fence) (hall : ∀ f, F.fn f) (hro : F.round = none) (w : World) (X : Nat) (A : Option Addr) (cap : Nat) (l : List (Ver NodV)) (lb : Array Value) (p : Int → Bool) (h : CelA w X A cap l)
    (ht : ∀ (W : World) (who : Int), Below w.heap.size w W → CallsIn F 0 Tryz.prog 85 (#[.int .i64 who] ++ lb) W fun e W' => e = .returned (.bool (p who)) ∧ Below W.heap.size W W') :
    CallsIn F 3 Tryz.prog 84 #[.pointer (some ⟨X, 0, none⟩), .func (.func 85) #[] lb] w fun e w' =>
      (∃ v : NodV, e = .returned (.tuple #[.agg #[.slice v.la v.ln v.lc, .slice v.pa v.pn v.pc], .bool (Cel.lastBy p l).isSome]) ∧ v = (Cel.lastBy p l).getD ⟨none, 0, 0, none, 0, 0⟩) ∧ Below w.heap.size w w' := by
  have h75 : F.fn 160 := hall _
  have h84 : F.fn 237 := hall _
  have hfm : F.fn 85 := hall _
  have hc0 := h.blk.cell 0
  have hXl := h.blk.lt
  simp only [List.getElem?_cons_zero] at hc0
  have hB3 : Below w.heap.size w (((w.alloc (.cells #[.func (.func 85) #[] lb] 172)).alloc (.cells #[.slice none 0 0, .slice none 0 0] 35)).alloc (.cells #[.bool false] 4)) := (((Below.refl _ w).alloc (Nat.le_refl _) _).alloc (by simp) _).alloc (by simp; omega) _
  have hc1 := (hB3.cell (p := ⟨X, 0, none⟩) hXl).trans hc0
  refine callsIn_of_wp_marks Tryz.func84 rfl (hall _) ?_ hro
  simp only [Tryz.ntmps84, List.size_toArray, List.length_cons, List.length_nil, Nat.reduceAdd, Nat.reduceSub, Array.replicate_succ, Array.replicate_zero, List.push_toArray, List.append_toArray, List.nil_append, List.cons_append]
  gi_wp2_with (gi_at_call 160; refine (backward_in F _ h75 hro _ _ _ _).mono ?_; rintro e w' ⟨rfl, rfl⟩)
  have bM := Boxed.new w 172 (.func (.func 85) #[] lb)
  have bV := Blk.new (w.alloc (.cells #[.func (.func 85) #[] lb] 172)) 35 [.slice none 0 0, .slice none 0 0]
  have bO := Blk.new ((w.alloc (.cells #[.func (.func 85) #[] lb] 172)).alloc (.cells #[.slice none 0 0, .slice none 0 0] 35)) 4 [.bool false]
  have bN := Boxed.new (((w.alloc (.cells #[.func (.func 85) #[] lb] 172)).alloc (.cells #[.slice none 0 0, .slice none 0 0] 35)).alloc (.cells #[.bool false] 4)) 270 (.slice A l.length cap)
  simp only [World.size_alloc] at bV bO bN
  have bM4 := ((bM.alloc (.cells #[.slice none 0 0, .slice none 0 0] 35)).alloc (.cells #[.bool false] 4)).alloc (.cells #[.slice A l.length cap] 270)
  have bV4 := (bV.alloc (.cells #[.bool false] 4)).alloc (.cells #[.slice A l.length cap] 270)
  have bO4 := bO.alloc (.cells #[.slice A l.length cap] 270)
  have hB4 := hB3.alloc (by simp; omega) (.cells #[.slice A l.length cap] 270)
  generalize hW0 : ((((w.alloc (.cells #[.func (.func 85) #[] lb] 172)).alloc (.cells #[.slice none 0 0, .slice none 0 0] 35)).alloc (.cells #[.bool false] 4)).alloc (.cells #[.slice A l.length cap] 270)) = W0 at *
  have hsz : W0.heap.size = w.heap.size + 4 := by rw [← hW0]; simp
  clear hB3 hc1 bM bV bO hW0
  refine wpIn_rangeFunc_ownH (α := Nat × Ver NodV) hro (by omega) (gf := 237) (lb := #[.pointer (some ⟨w.heap.size + 1 + 1 + 1, 0, none⟩)]) rfl h84 (enters_of Tryz.func237 (by kernel_rfl) rfl)
    (backward_stops F 2 h84 hro (by omega) (w.heap.size + 1 + 1 + 1) (w.heap.size + 4) A cap l h.len W0 (by omega) (by omega) (by omega) bN.cell (fun j y hy => by
      obtain ⟨g, e, hg, c⟩ := Vers.below hB4 h.vers j y hy
      exact ⟨g, e, by omega, c⟩)) belowK_t (belowK_b (by omega)) (Below.refl _ _) (fun _ => rfl)
    (fun pre W => (∀ x ∈ pre, p x.2.who = false) ∧ Below (w.heap.size + 4) W0 W)
    (fun c pre W => (c = .ret ∧ ∃ ini last, pre = ini ++ [last] ∧ (∀ x ∈ ini, p x.2.who = false) ∧ p last.2.who = true ∧ W.cell? ⟨w.heap.size + 1, 0, none⟩ = some (if last.2.gone then (.slice none 0 0) else (.slice last.2.v.la last.2.v.ln last.2.v.lc)) ∧ W.cell? ⟨w.heap.size + 1, 1, none⟩ = some (if last.2.gone then (.slice none 0 0) else (.slice last.2.v.pa last.2.v.pn last.2.v.pc)) ∧ W.cell? ⟨w.heap.size + 1 + 1, 0, none⟩ = some (.bool (!last.2.gone))) ∧ Below w.heap.size w W)
    (OwnFrom.and (fun _ _ _ _ hs _ _ => hs) (ownFrom_below (by omega) (by omega)))
    (fun c => OwnFrom.and (Own.from (fun s A B row hs hg hr => by obtain ⟨hc, ini, last, e1, e2, e3, q1, q2, e5⟩ := hs; exact ⟨hc, ini, last, e1, e2, e3, cell_kept q1 hg hr, cell_kept q2 hg hr, cell_kept e5 hg hr⟩) _) (ownFrom_below (Nat.le_refl _) (by omega)))
    ⟨by simp, Below.refl _ _⟩
    (fun x a' W => ∃ B : Nat, w.heap.size + 4 ≤ B ∧ Blk W B 272 [.int .i64 x.2.who, .slice x.2.v.la x.2.v.ln x.2.v.lc, .slice x.2.v.pa x.2.v.pn x.2.v.pc, .bool x.2.gone] ∧ a' = { tmps := #[.pointer (some ⟨X, 0, none⟩), .func (.func 85) #[] lb, undef, .pointer (some ⟨w.heap.size, 0, none⟩), .pointer (some ⟨w.heap.size + 1, 0, none⟩), .pointer (some ⟨w.heap.size + 1 + 1, 0, none⟩), undef, .pointer (some ⟨B, 0, none⟩), .pointer (some ⟨X, 0, none⟩), .bool false, undef, .pointer (some ⟨X, 0, none⟩), .pointer (some ⟨X, 0, none⟩), .pointer (some ⟨X, 0, none⟩), .slice A l.length cap, .func (.func 237) #[] #[.pointer (some ⟨w.heap.size + 1 + 1 + 1, 0, none⟩)], .int .i64 (x.1 : Int), .agg #[.int .i64 x.2.who, .slice x.2.v.la x.2.v.ln x.2.v.lc, .slice x.2.v.pa x.2.v.pn x.2.v.pc, .bool x.2.gone], undef, undef, undef, undef, undef, undef, undef, undef, undef, undef, undef], defers := [] })
    ?axown ?assign ?body ?done ?stop
  case axown =>
    rintro x a' _ W1 W2 row ⟨B, hB, hb, e⟩ hg hr
    refine ⟨B, hB, hb.grown hg ?_, e⟩
    rintro rfl
    obtain ⟨_, o, ho, hc⟩ := hr B rfl
    unfold Blk at hb
    rw [hb] at ho
    cases ho
    simp [Obj.isCells] at hc
  case assign =>
    intro lo pre x W K hI hK
    gi_wp2
    exact hK _ _ ((KeepsOthers.alloc W _).from _) ((Below.refl _ W).alloc (by have := hI.2.size; omega) _) ⟨hI.1, hI.2.alloc (by have := hI.2.size; omega) _⟩ ⟨W.heap.size, by have := hI.2.size; omega, Blk.new W 272 [.int .i64 x.2.who, .slice x.2.v.la x.2.v.ln x.2.v.lc, .slice x.2.v.pa x.2.v.pn x.2.v.pc, .bool x.2.gone], rfl⟩
  case body =>
    rintro lo pre x a' W hlo hrec ⟨hpre, hBW⟩ ⟨B, hB, hb, rfl⟩ hlt
    have c0 := hb.cell 0
    have c1 := hb.cell 1
    have c2 := hb.cell 2
    have cg := hb.cell 3
    simp only [List.getElem?_cons_zero, List.getElem?_cons_succ] at c0 c1 c2 cg
    have hBw : Below w.heap.size w W := hB4.trans (hBW.mono (by omega))
    have m0 := (hBW.cell (p := ⟨w.heap.size, 0, none⟩) (by simp)).trans bM4.cell
    have v1 := (hBW.cell (p := ⟨w.heap.size + 1, 0, none⟩) (by simp)).trans (bV4.cell 0)
    have f1 := (hBW.frozen (p := ⟨w.heap.size + 1, 0, none⟩) (by simp)).trans (bV4.frozen 0)
    have v2 := (hBW.cell (p := ⟨w.heap.size + 1, 1, none⟩) (by simp)).trans (bV4.cell 1)
    have f2 := (hBW.frozen (p := ⟨w.heap.size + 1, 1, none⟩) (by simp)).trans (bV4.frozen 1)
    simp only [List.getElem?_cons_zero, List.getElem?_cons_succ] at v1 v2 
    have o0 := (hBW.cell (p := ⟨w.heap.size + 1 + 1, 0, none⟩) (by simp)).trans (bO4.cell 0)
    have o1 := (hBW.frozen (p := ⟨w.heap.size + 1 + 1, 0, none⟩) (by simp)).trans (bO4.frozen 0)
    simp only [List.getElem?_cons_zero] at o0
    obtain ⟨xi, ⟨who, v, gone⟩⟩ := x
    have ht' := ht W who hBw
    dsimp only at *
    have hb' := hid hb
    clear hb
    cases hp : p who
    · rw [hp] at ht'
      gi_wp2_with (gi_at_call 85; refine (CallsIn.inRound lo ht').mono ?_; rintro e w' ⟨rfl, hb1⟩)
      exact ⟨keepsFrom_of_below hb1 _, hb1.mono (by have := hBW.size; omega), fun x hx => (List.mem_append.1 hx).elim (hpre x) (fun e => by simp at e; subst e; exact hp), hBW.trans (hb1.mono (by have := hBW.size; omega))⟩
    · rw [hp] at ht'
      cases gone
      · gi_wp2_with (gi_at_call 85; refine (CallsIn.inRound lo ht').mono ?_; rintro e w' ⟨rfl, hb1⟩; have hsW := hBW.size; replace c0 := (hb1.cell (p := ⟨B, 0, none⟩) hb'.out.lt).trans c0; replace c1 := (hb1.cell (p := ⟨B, 1, none⟩) hb'.out.lt).trans c1; replace c2 := (hb1.cell (p := ⟨B, 2, none⟩) hb'.out.lt).trans c2; replace cg := (hb1.cell (p := ⟨B, 3, none⟩) hb'.out.lt).trans cg; replace v1 := (hb1.cell (p := ⟨w.heap.size + 1, 0, none⟩) (by simp; omega)).trans v1; replace f1 := (hb1.frozen (p := ⟨w.heap.size + 1, 0, none⟩) (by simp; omega)).trans f1; replace v2 := (hb1.cell (p := ⟨w.heap.size + 1, 1, none⟩) (by simp; omega)).trans v2; replace f2 := (hb1.frozen (p := ⟨w.heap.size + 1, 1, none⟩) (by simp; omega)).trans f2;  replace o0 := (hb1.cell (p := ⟨w.heap.size + 1 + 1, 0, none⟩) (by simp; omega)).trans o0; replace o1 := (hb1.frozen (p := ⟨w.heap.size + 1 + 1, 0, none⟩) (by simp; omega)).trans o1)
        have bVw : Blk w' (w.heap.size + 1) 35 [.slice none 0 0, .slice none 0 0] := (hb1.block _ (by omega)).trans ((hBW.block _ (by omega)).trans bV4)
        have bOw : Blk w' (w.heap.size + 1 + 1) 4 [.bool false] := (hb1.block _ (by omega)).trans ((hBW.block _ (by omega)).trans bO4)
        have VV := ((bVw.set_ 0 (.slice v.la v.ln v.lc)).set_ 1 (.slice v.pa v.pn v.pc)).far (p := ⟨w.heap.size + 1 + 1, 0, none⟩) (by simp) (.bool true)
        have OO := ((bOw.far (p := ⟨w.heap.size + 1, 0, none⟩) (by simp) (.slice v.la v.ln v.lc)).far (p := ⟨w.heap.size + 1, 1, none⟩) (by simp) (.slice v.pa v.pn v.pc)).set_ 0 (.bool true)
        exact ⟨(keepsFrom_of_below hb1 _).trans ((((KeepsOthers.setCell _ _ _).trans (KeepsOthers.setCell _ _ _)).trans (KeepsOthers.setCell _ _ _)).from _), ⟨rfl, pre, _, rfl, hpre, hp, (VV.cell 0).trans rfl, (VV.cell 1).trans rfl, (OO.cell 0).trans rfl⟩, ((((hBw.trans (hb1.mono (by omega))).setCell (p := ⟨w.heap.size + 1, 0, none⟩) (by simp) _).setCell (p := ⟨w.heap.size + 1, 1, none⟩) (by simp) _).setCell (p := ⟨w.heap.size + 1 + 1, 0, none⟩) (by simp; omega) _)⟩
      · gi_wp2_with (gi_at_call 85; refine (CallsIn.inRound lo ht').mono ?_; rintro e w' ⟨rfl, hb1⟩; have hsW := hBW.size; replace c0 := (hb1.cell (p := ⟨B, 0, none⟩) hb'.out.lt).trans c0; replace c1 := (hb1.cell (p := ⟨B, 1, none⟩) hb'.out.lt).trans c1; replace c2 := (hb1.cell (p := ⟨B, 2, none⟩) hb'.out.lt).trans c2; replace cg := (hb1.cell (p := ⟨B, 3, none⟩) hb'.out.lt).trans cg; replace v1 := (hb1.cell (p := ⟨w.heap.size + 1, 0, none⟩) (by simp; omega)).trans v1; replace f1 := (hb1.frozen (p := ⟨w.heap.size + 1, 0, none⟩) (by simp; omega)).trans f1; replace v2 := (hb1.cell (p := ⟨w.heap.size + 1, 1, none⟩) (by simp; omega)).trans v2; replace f2 := (hb1.frozen (p := ⟨w.heap.size + 1, 1, none⟩) (by simp; omega)).trans f2;  replace o0 := (hb1.cell (p := ⟨w.heap.size + 1 + 1, 0, none⟩) (by simp; omega)).trans o0; replace o1 := (hb1.frozen (p := ⟨w.heap.size + 1 + 1, 0, none⟩) (by simp; omega)).trans o1)
        have bVw : Blk w' (w.heap.size + 1) 35 [.slice none 0 0, .slice none 0 0] := (hb1.block _ (by omega)).trans ((hBW.block _ (by omega)).trans bV4)
        have bOw : Blk w' (w.heap.size + 1 + 1) 4 [.bool false] := (hb1.block _ (by omega)).trans ((hBW.block _ (by omega)).trans bO4)
        have VV := ((bVw.set_ 0 (.slice none 0 0)).set_ 1 (.slice none 0 0)).far (p := ⟨w.heap.size + 1 + 1, 0, none⟩) (by simp) (.bool false)
        have OO := ((bOw.far (p := ⟨w.heap.size + 1, 0, none⟩) (by simp) (.slice none 0 0)).far (p := ⟨w.heap.size + 1, 1, none⟩) (by simp) (.slice none 0 0)).set_ 0 (.bool false)
        exact ⟨(keepsFrom_of_below hb1 _).trans ((((KeepsOthers.setCell _ _ _).trans (KeepsOthers.setCell _ _ _)).trans (KeepsOthers.setCell _ _ _)).from _), ⟨rfl, pre, _, rfl, hpre, hp, (VV.cell 0).trans rfl, (VV.cell 1).trans rfl, (OO.cell 0).trans rfl⟩, ((((hBw.trans (hb1.mono (by omega))).setCell (p := ⟨w.heap.size + 1, 0, none⟩) (by simp) _).setCell (p := ⟨w.heap.size + 1, 1, none⟩) (by simp) _).setCell (p := ⟨w.heap.size + 1 + 1, 0, none⟩) (by simp; omega) _)⟩
  case done =>
    rintro D ys W hD hys ⟨hne, hBW⟩ hK
    have v1 := (hBW.cell (p := ⟨w.heap.size + 1, 0, none⟩) (by simp)).trans (bV4.cell 0)
    have f1 := (hBW.frozen (p := ⟨w.heap.size + 1, 0, none⟩) (by simp)).trans (bV4.frozen 0)
    have v2 := (hBW.cell (p := ⟨w.heap.size + 1, 1, none⟩) (by simp)).trans (bV4.cell 1)
    have f2 := (hBW.frozen (p := ⟨w.heap.size + 1, 1, none⟩) (by simp)).trans (bV4.frozen 1)
    simp only [List.getElem?_cons_zero, List.getElem?_cons_succ] at v1 v2 
    have o0 := (hBW.cell (p := ⟨w.heap.size + 1 + 1, 0, none⟩) (by simp)).trans (bO4.cell 0)
    have o1 := (hBW.frozen (p := ⟨w.heap.size + 1 + 1, 0, none⟩) (by simp)).trans (bO4.frozen 0)
    simp only [List.getElem?_cons_zero] at o0
    have hys' := hid hys
    clear hys
    gi_wp2
    have hK' : (((W.setCell ⟨w.heap.size + 1, 0, none⟩ (.slice none 0 0)).setCell ⟨w.heap.size + 1, 1, none⟩ (.slice none 0 0)).setCell ⟨w.heap.size + 1 + 1, 0, none⟩ (.bool false)).heap[D]? = some (.deferred (some [])) := (((KeepsOthers.setCell _ _ _).trans (KeepsOthers.setCell _ _ _)).trans (KeepsOthers.setCell _ _ _)).same D _ hK rfl
    have bVw : Blk W (w.heap.size + 1) 35 [.slice none 0 0, .slice none 0 0] := (hBW.block _ (by omega)).trans bV4
    have bOw : Blk W (w.heap.size + 1 + 1) 4 [.bool false] := (hBW.block _ (by omega)).trans bO4
    have VV := ((bVw.set_ 0 (.slice none 0 0)).set_ 1 (.slice none 0 0)).far (p := ⟨w.heap.size + 1 + 1, 0, none⟩) (by simp) (.bool false)
    have OO := ((bOw.far (p := ⟨w.heap.size + 1, 0, none⟩) (by simp) (.slice none 0 0)).far (p := ⟨w.heap.size + 1, 1, none⟩) (by simp) (.slice none 0 0)).set_ 0 (.bool false)
    have g1 := cell_kept ((VV.cell 0).trans rfl) (grownBy_putObj' _ D (.deferred none)) (fun r e => by cases e; exact ⟨_, hK', rfl⟩)
    have g2 := cell_kept ((VV.cell 1).trans rfl) (grownBy_putObj' _ D (.deferred none)) (fun r e => by cases e; exact ⟨_, hK', rfl⟩)
    have f2 := cell_kept ((OO.cell 0).trans rfl) (grownBy_putObj' _ D (.deferred none)) (fun r e => by cases e; exact ⟨_, hK', rfl⟩)
    have hBe : Below w.heap.size w (((W.setCell ⟨w.heap.size + 1, 0, none⟩ (.slice none 0 0)).setCell ⟨w.heap.size + 1, 1, none⟩ (.slice none 0 0)).setCell ⟨w.heap.size + 1 + 1, 0, none⟩ (.bool false)) := ((((hB4.trans (hBW.mono (by omega))).setCell (p := ⟨w.heap.size + 1, 0, none⟩) (by simp) _).setCell (p := ⟨w.heap.size + 1, 1, none⟩) (by simp) _).setCell (p := ⟨w.heap.size + 1 + 1, 0, none⟩) (by simp; omega) _)
    refine ⟨by simp, .inl ⟨_, _, rfl, run_takeDeferred hK', .tuple #[.agg #[.slice none 0 0, .slice none 0 0], .bool false], ?_, ⟨⟨none, 0, 0, none, 0, 0⟩, ?_, ?_⟩, ?_⟩⟩
    · simp [results, Tryz.f84, go_sem, g1, g2, f2]
    · rw [lastBy_none hys'.out hne]; rfl
    · rw [lastBy_none hys'.out hne]; rfl
    · exact hBe.trans (belowK_b (w := w) (Nat.le_refl _) _ D _ _ (by omega) hK' rfl rfl)
  case stop =>
    rintro D c pre W hD hpre ⟨⟨rfl, ini, last, e1, e2, e3, q1, q2, e5⟩, hB⟩ hK
    have HP := hid hpre
    have HE := hid e1
    clear hpre e1
    gi_wp2
    have g1 := cell_kept q1 (grownBy_putObj' _ D (.deferred none)) (fun r e => by cases e; exact ⟨_, hK, rfl⟩)
    have g2 := cell_kept q2 (grownBy_putObj' _ D (.deferred none)) (fun r e => by cases e; exact ⟨_, hK, rfl⟩)
    have hh := trivial
    have f2 := cell_kept e5 (grownBy_putObj' _ D (.deferred none)) (fun r e => by cases e; exact ⟨_, hK, rfl⟩)
    refine ⟨by simp, .inl ⟨_, _, rfl, run_takeDeferred hK, .tuple #[.agg #[if last.2.gone = true then (.slice none 0 0) else (.slice last.2.v.la last.2.v.ln last.2.v.lc), if last.2.gone = true then (.slice none 0 0) else (.slice last.2.v.pa last.2.v.pn last.2.v.pc)], .bool (!last.2.gone)], ?_, ⟨(if last.2.gone = true then ⟨none, 0, 0, none, 0, 0⟩ else last.2.v), ?_, ?_⟩, ?_⟩⟩
    · simp [results, Tryz.f84, go_sem, g1, g2, f2]
    · rw [lastBy_hit HP.out HE.out e2 e3]
      cases last.2.gone <;> rfl
    · rw [lastBy_hit HP.out HE.out e2 e3]
      cases last.2.gone <;> rfl
    · exact hB.trans (belowK_b (w := w) (Nat.le_refl _) _ D _ _ (by omega) hK rfl rfl)
end Go.Proofs.YtdfkdgnhpdgphaaGreatDoor.Nod
