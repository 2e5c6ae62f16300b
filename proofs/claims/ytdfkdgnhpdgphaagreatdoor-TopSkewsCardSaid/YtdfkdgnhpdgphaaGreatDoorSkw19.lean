/-
  A cell of values of several cells: last, over whatever is meant. (Printed by mk/celgen.py.)
-/
import Derived.Shelf.Abstract
import Derived.Test.YtdfkdgnhpdgphaaGreatDoorSkw18
namespace Go.Proofs.YtdfkdgnhpdgphaaGreatDoor.Edg
open Go.RowKit Go.Shelf Go.Proofs.Lig
attribute [local go_sem] run_store_float
attribute [local go_sem] Oper.semAt_some

set_option maxRecDepth 100000 in
theorem CelA.vers {w : World} {X : Nat} {A : Option Addr} {cap : Nat} {l : List (Ver EdgV)} (h : CelA w X A cap l) : Vers w.heap.size w A l := fun j y hy => by
  obtain ⟨g, rfl, hg⟩ := h.form (by have := (List.getElem?_eq_some_iff.1 hy).1; omega)
  exact ⟨g, rfl, hg, row_ver h.own hy⟩
set_option maxRecDepth 100000 in
theorem keepsFrom_of_below {W W' : World} (h : Below W.heap.size W W') (B : Nat) : KeepsFrom B W W' :=
  ⟨h.size, fun i _ _ hi _ => (h.block i (Array.getElem?_eq_some_iff.1 hi).1).trans hi⟩

set_option maxRecDepth 100000 in
theorem lastBy_none {p : Int → Bool} {l : List (Ver EdgV)} {ys : List (Nat × Ver EdgV)} (e : ys.map (·.2) = l.reverse) (h : ∀ x ∈ ys, p x.2.who = false) : Cel.lastBy p l = none := by
  unfold Cel.lastBy
  rw [← e, List.find?_eq_none.2 (by intro y hy; obtain ⟨x, hx, rfl⟩ := List.mem_map.1 hy; simpa using h x hx)]
set_option maxRecDepth 100000 in
theorem lastBy_hit {p : Int → Bool} {l : List (Ver EdgV)} {pre ini : List (Nat × Ver EdgV)} {last : Nat × Ver EdgV} (e : pre.map (·.2) <+: l.reverse) (e1 : pre = ini ++ [last]) (h : ∀ x ∈ ini, p x.2.who = false) (hl : p last.2.who = true) : Cel.lastBy p l = if last.2.gone then none else some last.2.v := by
  obtain ⟨r, hr⟩ := e
  unfold Cel.lastBy
  rw [← hr, e1]
  have : (ini.map (·.2)).find? (fun y => p y.who) = none := List.find?_eq_none.2 (by intro y hy; obtain ⟨x, hx, rfl⟩ := List.mem_map.1 hy; simpa using h x hx)
  simp only [List.map_append, List.map_cons, List.map_nil, List.append_assoc, List.find?_append, this, List.cons_append, List.nil_append, List.find?_cons, hl, Option.none_or]

set_option maxRecDepth 100000 in
set_option maxHeartbeats 4000000 in
theorem cel_last_in (F : Fence) (hall : ∀ f, F.fn f) (hro : F.round = none) (w : World) (X : Nat) (A : Option Addr) (cap : Nat) (l : List (Ver EdgV)) (lb : Array Value) (p : Int → Bool) (h : CelA w X A cap l)
    (ht : ∀ (W : World) (who : Int), Below w.heap.size w W → CallsIn F 0 Tryz.prog 273 (#[.int .i64 who] ++ lb) W fun e W' => e = .returned (.bool (p who)) ∧ Below W.heap.size W W') :
    CallsIn F 3 Tryz.prog 88 #[.pointer (some ⟨X, 0, none⟩), .func (.func 273) #[] lb] w fun e w' =>
      (∃ v : EdgV, e = .returned (.tuple #[.agg #[.int .i64 v.src, .int .i64 v.dst, .string v.ty, .float .f64 v.w], .bool (Cel.lastBy p l).isSome]) ∧ v = (Cel.lastBy p l).getD ⟨0, 0, ⟨#[]⟩, 0⟩) ∧ Below w.heap.size w w' := by
  have h75 : F.fn 161 := hall _
  have h84 : F.fn 238 := hall _
  have hfm : F.fn 273 := hall _
  have hc0 := h.blk.cell 0
  have hXl := h.blk.lt
  simp only [List.getElem?_cons_zero] at hc0
  have hB3 : Below w.heap.size w (((w.alloc (.cells #[.func (.func 273) #[] lb] 172)).alloc (.cells #[.int .i64 0, .int .i64 0, .string ⟨#[]⟩, .float .f64 0] 38)).alloc (.cells #[.bool false] 4)) := (((Below.refl _ w).alloc (Nat.le_refl _) _).alloc (by simp) _).alloc (by simp; omega) _
  have hc1 := (hB3.cell (p := ⟨X, 0, none⟩) hXl).trans hc0
  refine callsIn_of_wp_marks Tryz.func88 rfl (hall _) ?_ hro
  simp only [Tryz.ntmps88, List.size_toArray, List.length_cons, List.length_nil, Nat.reduceAdd, Nat.reduceSub, Array.replicate_succ, Array.replicate_zero, List.push_toArray, List.append_toArray, List.nil_append, List.cons_append]
  gi_wp2_with (gi_at_call 161; refine (backward_in F _ h75 hro _ _ _ _).mono ?_; rintro e w' ⟨rfl, rfl⟩)
  have bM := Boxed.new w 172 (.func (.func 273) #[] lb)
  have bV := Blk.new (w.alloc (.cells #[.func (.func 273) #[] lb] 172)) 38 [.int .i64 0, .int .i64 0, .string ⟨#[]⟩, .float .f64 0]
  have bO := Blk.new ((w.alloc (.cells #[.func (.func 273) #[] lb] 172)).alloc (.cells #[.int .i64 0, .int .i64 0, .string ⟨#[]⟩, .float .f64 0] 38)) 4 [.bool false]
  have bN := Boxed.new (((w.alloc (.cells #[.func (.func 273) #[] lb] 172)).alloc (.cells #[.int .i64 0, .int .i64 0, .string ⟨#[]⟩, .float .f64 0] 38)).alloc (.cells #[.bool false] 4)) 278 (.slice A l.length cap)
  simp only [World.size_alloc] at bV bO bN
  have bM4 := ((bM.alloc (.cells #[.int .i64 0, .int .i64 0, .string ⟨#[]⟩, .float .f64 0] 38)).alloc (.cells #[.bool false] 4)).alloc (.cells #[.slice A l.length cap] 278)
  have bV4 := (bV.alloc (.cells #[.bool false] 4)).alloc (.cells #[.slice A l.length cap] 278)
  have bO4 := bO.alloc (.cells #[.slice A l.length cap] 278)
  have hB4 := hB3.alloc (by simp; omega) (.cells #[.slice A l.length cap] 278)
  generalize hW0 : ((((w.alloc (.cells #[.func (.func 273) #[] lb] 172)).alloc (.cells #[.int .i64 0, .int .i64 0, .string ⟨#[]⟩, .float .f64 0] 38)).alloc (.cells #[.bool false] 4)).alloc (.cells #[.slice A l.length cap] 278)) = W0 at *
  have hsz : W0.heap.size = w.heap.size + 4 := by rw [← hW0]; simp
  clear hB3 hc1 bM bV bO hW0
  refine wpIn_rangeFunc_ownH (α := Nat × Ver EdgV) hro (by omega) (gf := 238) (lb := #[.pointer (some ⟨w.heap.size + 1 + 1 + 1, 0, none⟩)]) rfl h84 (enters_of Tryz.func238 (by kernel_rfl) rfl)
    (backward_stops F 2 h84 hro (by omega) (w.heap.size + 1 + 1 + 1) (w.heap.size + 4) A cap l h.len W0 (by omega) (by omega) (by omega) bN.cell (fun j y hy => by
      obtain ⟨g, e, hg, c⟩ := Vers.below hB4 h.vers j y hy
      exact ⟨g, e, by omega, c⟩)) belowK_t (belowK_b (by omega)) (Below.refl _ _) (fun _ => rfl)
    (fun pre W => (∀ x ∈ pre, p x.2.who = false) ∧ Below (w.heap.size + 4) W0 W)
    (fun c pre W => (c = .ret ∧ ∃ ini last, pre = ini ++ [last] ∧ (∀ x ∈ ini, p x.2.who = false) ∧ p last.2.who = true ∧ W.cell? ⟨w.heap.size + 1, 0, none⟩ = some (if last.2.gone then (.int .i64 0) else (.int .i64 last.2.v.src)) ∧ W.cell? ⟨w.heap.size + 1, 1, none⟩ = some (if last.2.gone then (.int .i64 0) else (.int .i64 last.2.v.dst)) ∧ W.cell? ⟨w.heap.size + 1, 2, none⟩ = some (if last.2.gone then (.string ⟨#[]⟩) else (.string last.2.v.ty)) ∧ W.cell? ⟨w.heap.size + 1, 3, none⟩ = some (if last.2.gone then (.float .f64 0) else (.float .f64 last.2.v.w)) ∧ W.cell? ⟨w.heap.size + 1 + 1, 0, none⟩ = some (.bool (!last.2.gone))) ∧ Below w.heap.size w W)
    (OwnFrom.and (fun _ _ _ _ hs _ _ => hs) (ownFrom_below (by omega) (by omega)))
    (fun c => OwnFrom.and (Own.from (fun s A B row hs hg hr => by obtain ⟨hc, ini, last, e1, e2, e3, q1, q2, q3, q4, e5⟩ := hs; exact ⟨hc, ini, last, e1, e2, e3, cell_kept q1 hg hr, cell_kept q2 hg hr, cell_kept q3 hg hr, cell_kept q4 hg hr, cell_kept e5 hg hr⟩) _) (ownFrom_below (Nat.le_refl _) (by omega)))
    ⟨by simp, Below.refl _ _⟩
    (fun x a' W => ∃ B : Nat, w.heap.size + 4 ≤ B ∧ Blk W B 280 [.int .i64 x.2.who, .int .i64 x.2.v.src, .int .i64 x.2.v.dst, .string x.2.v.ty, .float .f64 x.2.v.w, .bool x.2.gone] ∧ a' = { tmps := #[.pointer (some ⟨X, 0, none⟩), .func (.func 273) #[] lb, undef, .pointer (some ⟨w.heap.size, 0, none⟩), .pointer (some ⟨w.heap.size + 1, 0, none⟩), .pointer (some ⟨w.heap.size + 1 + 1, 0, none⟩), undef, .pointer (some ⟨B, 0, none⟩), .pointer (some ⟨X, 0, none⟩), .bool false, undef, .pointer (some ⟨X, 0, none⟩), .pointer (some ⟨X, 0, none⟩), .pointer (some ⟨X, 0, none⟩), .slice A l.length cap, .func (.func 238) #[] #[.pointer (some ⟨w.heap.size + 1 + 1 + 1, 0, none⟩)], .int .i64 (x.1 : Int), .agg #[.int .i64 x.2.who, .int .i64 x.2.v.src, .int .i64 x.2.v.dst, .string x.2.v.ty, .float .f64 x.2.v.w, .bool x.2.gone], undef, undef, undef, undef, undef, undef, undef, undef, undef, undef, undef], defers := [] })
    ?axown ?assign ?body ?done ?stop
  case axown =>
    rintro x a' _ W1 W2 row ⟨B, hB, hb, e⟩ hg hr
    refine ⟨B, hB, hb.grown hg ?_, e⟩
    rintro rfl
    obtain ⟨_, o, ho, hc⟩ := hr B rfl
    unfold Blk at hb
    rw [hb] at ho
    cases ho
    simp [Obj.isCells] at hc
  case assign =>
    intro lo pre x W K hI hK
    gi_wp2
    exact hK _ _ ((KeepsOthers.alloc W _).from _) ((Below.refl _ W).alloc (by have := hI.2.size; omega) _) ⟨hI.1, hI.2.alloc (by have := hI.2.size; omega) _⟩ ⟨W.heap.size, by have := hI.2.size; omega, Blk.new W 280 [.int .i64 x.2.who, .int .i64 x.2.v.src, .int .i64 x.2.v.dst, .string x.2.v.ty, .float .f64 x.2.v.w, .bool x.2.gone], rfl⟩
  case body =>
    rintro lo pre x a' W hlo hrec ⟨hpre, hBW⟩ ⟨B, hB, hb, rfl⟩ hlt
    have c0 := hb.cell 0
    have c1 := hb.cell 1
    have c2 := hb.cell 2
    have c3 := hb.cell 3
    have c4 := hb.cell 4
    have cg := hb.cell 5
    simp only [List.getElem?_cons_zero, List.getElem?_cons_succ] at c0 c1 c2 c3 c4 cg
    have hBw : Below w.heap.size w W := hB4.trans (hBW.mono (by omega))
    have m0 := (hBW.cell (p := ⟨w.heap.size, 0, none⟩) (by simp)).trans bM4.cell
    have v1 := (hBW.cell (p := ⟨w.heap.size + 1, 0, none⟩) (by simp)).trans (bV4.cell 0)
    have f1 := (hBW.frozen (p := ⟨w.heap.size + 1, 0, none⟩) (by simp)).trans (bV4.frozen 0)
    have v2 := (hBW.cell (p := ⟨w.heap.size + 1, 1, none⟩) (by simp)).trans (bV4.cell 1)
    have f2 := (hBW.frozen (p := ⟨w.heap.size + 1, 1, none⟩) (by simp)).trans (bV4.frozen 1)
    have v3 := (hBW.cell (p := ⟨w.heap.size + 1, 2, none⟩) (by simp)).trans (bV4.cell 2)
    have f3 := (hBW.frozen (p := ⟨w.heap.size + 1, 2, none⟩) (by simp)).trans (bV4.frozen 2)
    have v4 := (hBW.cell (p := ⟨w.heap.size + 1, 3, none⟩) (by simp)).trans (bV4.cell 3)
    have f4 := (hBW.frozen (p := ⟨w.heap.size + 1, 3, none⟩) (by simp)).trans (bV4.frozen 3)
    simp only [List.getElem?_cons_zero, List.getElem?_cons_succ] at v1 v2 v3 v4 
    have o0 := (hBW.cell (p := ⟨w.heap.size + 1 + 1, 0, none⟩) (by simp)).trans (bO4.cell 0)
    have o1 := (hBW.frozen (p := ⟨w.heap.size + 1 + 1, 0, none⟩) (by simp)).trans (bO4.frozen 0)
    simp only [List.getElem?_cons_zero] at o0
    obtain ⟨xi, ⟨who, v, gone⟩⟩ := x
    have ht' := ht W who hBw
    dsimp only at *
    have hb' := hid hb
    clear hb
    cases hp : p who
    · rw [hp] at ht'
      gi_wp2_with (gi_at_call 273; refine (CallsIn.inRound lo ht').mono ?_; rintro e w' ⟨rfl, hb1⟩)
      exact ⟨keepsFrom_of_below hb1 _, hb1.mono (by have := hBW.size; omega), fun x hx => (List.mem_append.1 hx).elim (hpre x) (fun e => by simp at e; subst e; exact hp), hBW.trans (hb1.mono (by have := hBW.size; omega))⟩
    · rw [hp] at ht'
      cases gone
      · gi_wp2_with (gi_at_call 273; refine (CallsIn.inRound lo ht').mono ?_; rintro e w' ⟨rfl, hb1⟩; have hsW := hBW.size; replace c0 := (hb1.cell (p := ⟨B, 0, none⟩) hb'.out.lt).trans c0; replace c1 := (hb1.cell (p := ⟨B, 1, none⟩) hb'.out.lt).trans c1; replace c2 := (hb1.cell (p := ⟨B, 2, none⟩) hb'.out.lt).trans c2; replace c3 := (hb1.cell (p := ⟨B, 3, none⟩) hb'.out.lt).trans c3; replace c4 := (hb1.cell (p := ⟨B, 4, none⟩) hb'.out.lt).trans c4; replace cg := (hb1.cell (p := ⟨B, 5, none⟩) hb'.out.lt).trans cg; replace v1 := (hb1.cell (p := ⟨w.heap.size + 1, 0, none⟩) (by simp; omega)).trans v1; replace f1 := (hb1.frozen (p := ⟨w.heap.size + 1, 0, none⟩) (by simp; omega)).trans f1; replace v2 := (hb1.cell (p := ⟨w.heap.size + 1, 1, none⟩) (by simp; omega)).trans v2; replace f2 := (hb1.frozen (p := ⟨w.heap.size + 1, 1, none⟩) (by simp; omega)).trans f2; replace v3 := (hb1.cell (p := ⟨w.heap.size + 1, 2, none⟩) (by simp; omega)).trans v3; replace f3 := (hb1.frozen (p := ⟨w.heap.size + 1, 2, none⟩) (by simp; omega)).trans f3; replace v4 := (hb1.cell (p := ⟨w.heap.size + 1, 3, none⟩) (by simp; omega)).trans v4; replace f4 := (hb1.frozen (p := ⟨w.heap.size + 1, 3, none⟩) (by simp; omega)).trans f4;  replace o0 := (hb1.cell (p := ⟨w.heap.size + 1 + 1, 0, none⟩) (by simp; omega)).trans o0; replace o1 := (hb1.frozen (p := ⟨w.heap.size + 1 + 1, 0, none⟩) (by simp; omega)).trans o1)
        have bVw : Blk w' (w.heap.size + 1) 38 [.int .i64 0, .int .i64 0, .string ⟨#[]⟩, .float .f64 0] := (hb1.block _ (by omega)).trans ((hBW.block _ (by omega)).trans bV4)
        have bOw : Blk w' (w.heap.size + 1 + 1) 4 [.bool false] := (hb1.block _ (by omega)).trans ((hBW.block _ (by omega)).trans bO4)
        have VV := ((((bVw.set_ 0 (.int .i64 v.src)).set_ 1 (.int .i64 v.dst)).set_ 2 (.string v.ty)).set_ 3 (.float .f64 v.w)).far (p := ⟨w.heap.size + 1 + 1, 0, none⟩) (by simp) (.bool true)
        have OO := ((((bOw.far (p := ⟨w.heap.size + 1, 0, none⟩) (by simp) (.int .i64 v.src)).far (p := ⟨w.heap.size + 1, 1, none⟩) (by simp) (.int .i64 v.dst)).far (p := ⟨w.heap.size + 1, 2, none⟩) (by simp) (.string v.ty)).far (p := ⟨w.heap.size + 1, 3, none⟩) (by simp) (.float .f64 v.w)).set_ 0 (.bool true)
        exact ⟨(keepsFrom_of_below hb1 _).trans ((((((KeepsOthers.setCell _ _ _).trans (KeepsOthers.setCell _ _ _)).trans (KeepsOthers.setCell _ _ _)).trans (KeepsOthers.setCell _ _ _)).trans (KeepsOthers.setCell _ _ _)).from _), ⟨rfl, pre, _, rfl, hpre, hp, (VV.cell 0).trans rfl, (VV.cell 1).trans rfl, (VV.cell 2).trans rfl, (VV.cell 3).trans rfl, (OO.cell 0).trans rfl⟩, ((((((hBw.trans (hb1.mono (by omega))).setCell (p := ⟨w.heap.size + 1, 0, none⟩) (by simp) _).setCell (p := ⟨w.heap.size + 1, 1, none⟩) (by simp) _).setCell (p := ⟨w.heap.size + 1, 2, none⟩) (by simp) _).setCell (p := ⟨w.heap.size + 1, 3, none⟩) (by simp) _).setCell (p := ⟨w.heap.size + 1 + 1, 0, none⟩) (by simp; omega) _)⟩
      · gi_wp2_with (gi_at_call 273; refine (CallsIn.inRound lo ht').mono ?_; rintro e w' ⟨rfl, hb1⟩; have hsW := hBW.size; replace c0 := (hb1.cell (p := ⟨B, 0, none⟩) hb'.out.lt).trans c0; replace c1 := (hb1.cell (p := ⟨B, 1, none⟩) hb'.out.lt).trans c1; replace c2 := (hb1.cell (p := ⟨B, 2, none⟩) hb'.out.lt).trans c2; replace c3 := (hb1.cell (p := ⟨B, 3, none⟩) hb'.out.lt).trans c3; replace c4 := (hb1.cell (p := ⟨B, 4, none⟩) hb'.out.lt).trans c4; replace cg := (hb1.cell (p := ⟨B, 5, none⟩) hb'.out.lt).trans cg; replace v1 := (hb1.cell (p := ⟨w.heap.size + 1, 0, none⟩) (by simp; omega)).trans v1; replace f1 := (hb1.frozen (p := ⟨w.heap.size + 1, 0, none⟩) (by simp; omega)).trans f1; replace v2 := (hb1.cell (p := ⟨w.heap.size + 1, 1, none⟩) (by simp; omega)).trans v2; replace f2 := (hb1.frozen (p := ⟨w.heap.size + 1, 1, none⟩) (by simp; omega)).trans f2; replace v3 := (hb1.cell (p := ⟨w.heap.size + 1, 2, none⟩) (by simp; omega)).trans v3; replace f3 := (hb1.frozen (p := ⟨w.heap.size + 1, 2, none⟩) (by simp; omega)).trans f3; replace v4 := (hb1.cell (p := ⟨w.heap.size + 1, 3, none⟩) (by simp; omega)).trans v4; replace f4 := (hb1.frozen (p := ⟨w.heap.size + 1, 3, none⟩) (by simp; omega)).trans f4;  replace o0 := (hb1.cell (p := ⟨w.heap.size + 1 + 1, 0, none⟩) (by simp; omega)).trans o0; replace o1 := (hb1.frozen (p := ⟨w.heap.size + 1 + 1, 0, none⟩) (by simp; omega)).trans o1)
        have bVw : Blk w' (w.heap.size + 1) 38 [.int .i64 0, .int .i64 0, .string ⟨#[]⟩, .float .f64 0] := (hb1.block _ (by omega)).trans ((hBW.block _ (by omega)).trans bV4)
        have bOw : Blk w' (w.heap.size + 1 + 1) 4 [.bool false] := (hb1.block _ (by omega)).trans ((hBW.block _ (by omega)).trans bO4)
        have VV := ((((bVw.set_ 0 (.int .i64 0)).set_ 1 (.int .i64 0)).set_ 2 (.string ⟨#[]⟩)).set_ 3 (.float .f64 0)).far (p := ⟨w.heap.size + 1 + 1, 0, none⟩) (by simp) (.bool false)
        have OO := ((((bOw.far (p := ⟨w.heap.size + 1, 0, none⟩) (by simp) (.int .i64 0)).far (p := ⟨w.heap.size + 1, 1, none⟩) (by simp) (.int .i64 0)).far (p := ⟨w.heap.size + 1, 2, none⟩) (by simp) (.string ⟨#[]⟩)).far (p := ⟨w.heap.size + 1, 3, none⟩) (by simp) (.float .f64 0)).set_ 0 (.bool false)
        exact ⟨(keepsFrom_of_below hb1 _).trans ((((((KeepsOthers.setCell _ _ _).trans (KeepsOthers.setCell _ _ _)).trans (KeepsOthers.setCell _ _ _)).trans (KeepsOthers.setCell _ _ _)).trans (KeepsOthers.setCell _ _ _)).from _), ⟨rfl, pre, _, rfl, hpre, hp, (VV.cell 0).trans rfl, (VV.cell 1).trans rfl, (VV.cell 2).trans rfl, (VV.cell 3).trans rfl, (OO.cell 0).trans rfl⟩, ((((((hBw.trans (hb1.mono (by omega))).setCell (p := ⟨w.heap.size + 1, 0, none⟩) (by simp) _).setCell (p := ⟨w.heap.size + 1, 1, none⟩) (by simp) _).setCell (p := ⟨w.heap.size + 1, 2, none⟩) (by simp) _).setCell (p := ⟨w.heap.size + 1, 3, none⟩) (by simp) _).setCell (p := ⟨w.heap.size + 1 + 1, 0, none⟩) (by simp; omega) _)⟩
  case done =>
    rintro D ys W hD hys ⟨hne, hBW⟩ hK
    have v1 := (hBW.cell (p := ⟨w.heap.size + 1, 0, none⟩) (by simp)).trans (bV4.cell 0)
    have f1 := (hBW.frozen (p := ⟨w.heap.size + 1, 0, none⟩) (by simp)).trans (bV4.frozen 0)
    have v2 := (hBW.cell (p := ⟨w.heap.size + 1, 1, none⟩) (by simp)).trans (bV4.cell 1)
    have f2 := (hBW.frozen (p := ⟨w.heap.size + 1, 1, none⟩) (by simp)).trans (bV4.frozen 1)
    have v3 := (hBW.cell (p := ⟨w.heap.size + 1, 2, none⟩) (by simp)).trans (bV4.cell 2)
    have f3 := (hBW.frozen (p := ⟨w.heap.size + 1, 2, none⟩) (by simp)).trans (bV4.frozen 2)
    have v4 := (hBW.cell (p := ⟨w.heap.size + 1, 3, none⟩) (by simp)).trans (bV4.cell 3)
    have f4 := (hBW.frozen (p := ⟨w.heap.size + 1, 3, none⟩) (by simp)).trans (bV4.frozen 3)
    simp only [List.getElem?_cons_zero, List.getElem?_cons_succ] at v1 v2 v3 v4 
    have o0 := (hBW.cell (p := ⟨w.heap.size + 1 + 1, 0, none⟩) (by simp)).trans (bO4.cell 0)
    have o1 := (hBW.frozen (p := ⟨w.heap.size + 1 + 1, 0, none⟩) (by simp)).trans (bO4.frozen 0)
    simp only [List.getElem?_cons_zero] at o0
    have hys' := hid hys
    clear hys
    gi_wp2
    have hK' : (((((W.setCell ⟨w.heap.size + 1, 0, none⟩ (.int .i64 0)).setCell ⟨w.heap.size + 1, 1, none⟩ (.int .i64 0)).setCell ⟨w.heap.size + 1, 2, none⟩ (.string ⟨#[]⟩)).setCell ⟨w.heap.size + 1, 3, none⟩ (.float .f64 0)).setCell ⟨w.heap.size + 1 + 1, 0, none⟩ (.bool false)).heap[D]? = some (.deferred (some [])) := (((((KeepsOthers.setCell _ _ _).trans (KeepsOthers.setCell _ _ _)).trans (KeepsOthers.setCell _ _ _)).trans (KeepsOthers.setCell _ _ _)).trans (KeepsOthers.setCell _ _ _)).same D _ hK rfl
    have bVw : Blk W (w.heap.size + 1) 38 [.int .i64 0, .int .i64 0, .string ⟨#[]⟩, .float .f64 0] := (hBW.block _ (by omega)).trans bV4
    have bOw : Blk W (w.heap.size + 1 + 1) 4 [.bool false] := (hBW.block _ (by omega)).trans bO4
    have VV := ((((bVw.set_ 0 (.int .i64 0)).set_ 1 (.int .i64 0)).set_ 2 (.string ⟨#[]⟩)).set_ 3 (.float .f64 0)).far (p := ⟨w.heap.size + 1 + 1, 0, none⟩) (by simp) (.bool false)
    have OO := ((((bOw.far (p := ⟨w.heap.size + 1, 0, none⟩) (by simp) (.int .i64 0)).far (p := ⟨w.heap.size + 1, 1, none⟩) (by simp) (.int .i64 0)).far (p := ⟨w.heap.size + 1, 2, none⟩) (by simp) (.string ⟨#[]⟩)).far (p := ⟨w.heap.size + 1, 3, none⟩) (by simp) (.float .f64 0)).set_ 0 (.bool false)
    have g1 := cell_kept ((VV.cell 0).trans rfl) (grownBy_putObj' _ D (.deferred none)) (fun r e => by cases e; exact ⟨_, hK', rfl⟩)
    have g2 := cell_kept ((VV.cell 1).trans rfl) (grownBy_putObj' _ D (.deferred none)) (fun r e => by cases e; exact ⟨_, hK', rfl⟩)
    have g3 := cell_kept ((VV.cell 2).trans rfl) (grownBy_putObj' _ D (.deferred none)) (fun r e => by cases e; exact ⟨_, hK', rfl⟩)
    have g4 := cell_kept ((VV.cell 3).trans rfl) (grownBy_putObj' _ D (.deferred none)) (fun r e => by cases e; exact ⟨_, hK', rfl⟩)
    have f2 := cell_kept ((OO.cell 0).trans rfl) (grownBy_putObj' _ D (.deferred none)) (fun r e => by cases e; exact ⟨_, hK', rfl⟩)
    have hBe : Below w.heap.size w (((((W.setCell ⟨w.heap.size + 1, 0, none⟩ (.int .i64 0)).setCell ⟨w.heap.size + 1, 1, none⟩ (.int .i64 0)).setCell ⟨w.heap.size + 1, 2, none⟩ (.string ⟨#[]⟩)).setCell ⟨w.heap.size + 1, 3, none⟩ (.float .f64 0)).setCell ⟨w.heap.size + 1 + 1, 0, none⟩ (.bool false)) := ((((((hB4.trans (hBW.mono (by omega))).setCell (p := ⟨w.heap.size + 1, 0, none⟩) (by simp) _).setCell (p := ⟨w.heap.size + 1, 1, none⟩) (by simp) _).setCell (p := ⟨w.heap.size + 1, 2, none⟩) (by simp) _).setCell (p := ⟨w.heap.size + 1, 3, none⟩) (by simp) _).setCell (p := ⟨w.heap.size + 1 + 1, 0, none⟩) (by simp; omega) _)
    refine ⟨by simp, .inl ⟨_, _, rfl, run_takeDeferred hK', .tuple #[.agg #[.int .i64 0, .int .i64 0, .string ⟨#[]⟩, .float .f64 0], .bool false], ?_, ⟨⟨0, 0, ⟨#[]⟩, 0⟩, ?_, ?_⟩, ?_⟩⟩
    · simp [results, Tryz.f88, go_sem, g1, g2, g3, g4, f2]
    · rw [lastBy_none hys'.out hne]; rfl
    · rw [lastBy_none hys'.out hne]; rfl
    · exact hBe.trans (belowK_b (w := w) (Nat.le_refl _) _ D _ _ (by omega) hK' rfl rfl)
  case stop =>
    rintro D c pre W hD hpre ⟨⟨rfl, ini, last, e1, e2, e3, q1, q2, q3, q4, e5⟩, hB⟩ hK
    have HP := hid hpre
    have HE := hid e1
    clear hpre e1
    gi_wp2
    have g1 := cell_kept q1 (grownBy_putObj' _ D (.deferred none)) (fun r e => by cases e; exact ⟨_, hK, rfl⟩)
    have g2 := cell_kept q2 (grownBy_putObj' _ D (.deferred none)) (fun r e => by cases e; exact ⟨_, hK, rfl⟩)
    have g3 := cell_kept q3 (grownBy_putObj' _ D (.deferred none)) (fun r e => by cases e; exact ⟨_, hK, rfl⟩)
    have g4 := cell_kept q4 (grownBy_putObj' _ D (.deferred none)) (fun r e => by cases e; exact ⟨_, hK, rfl⟩)
    have hh := trivial
    have f2 := cell_kept e5 (grownBy_putObj' _ D (.deferred none)) (fun r e => by cases e; exact ⟨_, hK, rfl⟩)
    refine ⟨by simp, .inl ⟨_, _, rfl, run_takeDeferred hK, .tuple #[.agg #[if last.2.gone = true then (.int .i64 0) else (.int .i64 last.2.v.src), if last.2.gone = true then (.int .i64 0) else (.int .i64 last.2.v.dst), if last.2.gone = true then (.string ⟨#[]⟩) else (.string last.2.v.ty), if last.2.gone = true then (.float .f64 0) else (.float .f64 last.2.v.w)], .bool (!last.2.gone)], ?_, ⟨(if last.2.gone = true then ⟨0, 0, ⟨#[]⟩, 0⟩ else last.2.v), ?_, ?_⟩, ?_⟩⟩
    · simp [results, Tryz.f88, go_sem, g1, g2, g3, g4, f2]
    · rw [lastBy_hit HP.out HE.out e2 e3]
      cases last.2.gone <;> rfl
    · rw [lastBy_hit HP.out HE.out e2 e3]
      cases last.2.gone <;> rfl
    · exact hB.trans (belowK_b (w := w) (Nat.le_refl _) _ D _ _ (by omega) hK rfl rfl)
end Go.Proofs.YtdfkdgnhpdgphaaGreatDoor.Edg

/-
  A cell of values of several cells: last, over what Last's closure means. (Printed by mk/celgen.py.)
-/
namespace Go.Proofs.YtdfkdgnhpdgphaaGreatDoor.Edg
open Go.RowKit Go.Shelf Go.Proofs.Lig
attribute [local go_sem] run_store_float
attribute [local go_sem] Oper.semAt_some

set_option maxRecDepth 100000 in
set_option maxHeartbeats 4000000 in
theorem cel_lastL_in (F : Fence) (hall : ∀ f, F.fn f) (hro : F.round = none) (w : World) (X : Nat) (A : Option Addr) (cap : Nat) (l : List (Ver EdgV)) (lb : Array Value) (p : Int → Bool) (h : CelA w X A cap l)
    (ht : ∀ (W : World) (who : Int), Below w.heap.size w W → CallsIn F 0 Tryz.prog 89 (#[.int .i64 who] ++ lb) W fun e W' => e = .returned (.bool (p who)) ∧ Below W.heap.size W W') :
    CallsIn F 3 Tryz.prog 88 #[.pointer (some ⟨X, 0, none⟩), .func (.func 89) #[] lb] w fun e w' =>
      (∃ v : EdgV, e = .returned (.tuple #[.agg #[.int .i64 v.src, .int .i64 v.dst, .string v.ty, .float .f64 v.w], .bool (Cel.lastBy p l).isSome]) ∧ v = (Cel.lastBy p l).getD ⟨0, 0, ⟨#[]⟩, 0⟩) ∧ Below w.heap.size w w' := by
  have h75 : F.fn 161 := hall _
  have h84 : F.fn 238 := hall _
  have hfm : F.fn 89 := hall _
  have hc0 := h.blk.cell 0
  have hXl := h.blk.lt
  simp only [List.getElem?_cons_zero] at hc0
  have hB3 : Below w.heap.size w (((w.alloc (.cells #[.func (.func 89) #[] lb] 172)).alloc (.cells #[.int .i64 0, .int .i64 0, .string ⟨#[]⟩, .float .f64 0] 38)).alloc (.cells #[.bool false] 4)) := (((Below.refl _ w).alloc (Nat.le_refl _) _).alloc (by simp) _).alloc (by simp; omega) _
  have hc1 := (hB3.cell (p := ⟨X, 0, none⟩) hXl).trans hc0
  refine callsIn_of_wp_marks Tryz.func88 rfl (hall _) ?_ hro
  simp only [Tryz.ntmps88, List.size_toArray, List.length_cons, List.length_nil, Nat.reduceAdd, Nat.reduceSub, Array.replicate_succ, Array.replicate_zero, List.push_toArray, List.append_toArray, List.nil_append, List.cons_append]
  gi_wp2_with (gi_at_call 161; refine (backward_in F _ h75 hro _ _ _ _).mono ?_; rintro e w' ⟨rfl, rfl⟩)
  have bM := Boxed.new w 172 (.func (.func 89) #[] lb)
  have bV := Blk.new (w.alloc (.cells #[.func (.func 89) #[] lb] 172)) 38 [.int .i64 0, .int .i64 0, .string ⟨#[]⟩, .float .f64 0]
  have bO := Blk.new ((w.alloc (.cells #[.func (.func 89) #[] lb] 172)).alloc (.cells #[.int .i64 0, .int .i64 0, .string ⟨#[]⟩, .float .f64 0] 38)) 4 [.bool false]
  have bN := Boxed.new (((w.alloc (.cells #[.func (.func 89) #[] lb] 172)).alloc (.cells #[.int .i64 0, .int .i64 0, .string ⟨#[]⟩, .float .f64 0] 38)).alloc (.cells #[.bool false] 4)) 278 (.slice A l.length cap)
  simp only [World.size_alloc] at bV bO bN
  have bM4 := ((bM.alloc (.cells #[.int .i64 0, .int .i64 0, .string ⟨#[]⟩, .float .f64 0] 38)).alloc (.cells #[.bool false] 4)).alloc (.cells #[.slice A l.length cap] 278)
  have bV4 := (bV.alloc (.cells #[.bool false] 4)).alloc (.cells #[.slice A l.length cap] 278)
  have bO4 := bO.alloc (.cells #[.slice A l.length cap] 278)
  have hB4 := hB3.alloc (by simp; omega) (.cells #[.slice A l.length cap] 278)
  generalize hW0 : ((((w.alloc (.cells #[.func (.func 89) #[] lb] 172)).alloc (.cells #[.int .i64 0, .int .i64 0, .string ⟨#[]⟩, .float .f64 0] 38)).alloc (.cells #[.bool false] 4)).alloc (.cells #[.slice A l.length cap] 278)) = W0 at *
  have hsz : W0.heap.size = w.heap.size + 4 := by rw [← hW0]; simp
  clear hB3 hc1 bM bV bO hW0
  refine wpIn_rangeFunc_ownH (α := Nat × Ver EdgV) hro (by omega) (gf := 238) (lb := #[.pointer (some ⟨w.heap.size + 1 + 1 + 1, 0, none⟩)]) rfl h84 (enters_of Tryz.func238 (by kernel_rfl) rfl)
    (backward_stops F 2 h84 hro (by omega) (w.heap.size + 1 + 1 + 1) (w.heap.size + 4) A cap l h.len W0 (by omega) (by omega) (by omega) bN.cell (fun j y hy => by
      obtain ⟨g, e, hg, c⟩ := Vers.below hB4 h.vers j y hy
      exact ⟨g, e, by omega, c⟩)) belowK_t (belowK_b (by omega)) (Below.refl _ _) (fun _ => rfl)
    (fun pre W => (∀ x ∈ pre, p x.2.who = false) ∧ Below (w.heap.size + 4) W0 W)
    (fun c pre W => (c = .ret ∧ ∃ ini last, pre = ini ++ [last] ∧ (∀ x ∈ ini, p x.2.who = false) ∧ p last.2.who = true ∧ W.cell? ⟨w.heap.size + 1, 0, none⟩ = some (if last.2.gone then (.int .i64 0) else (.int .i64 last.2.v.src)) ∧ W.cell? ⟨w.heap.size + 1, 1, none⟩ = some (if last.2.gone then (.int .i64 0) else (.int .i64 last.2.v.dst)) ∧ W.cell? ⟨w.heap.size + 1, 2, none⟩ = some (if last.2.gone then (.string ⟨#[]⟩) else (.string last.2.v.ty)) ∧ W.cell? ⟨w.heap.size + 1, 3, none⟩ = some (if last.2.gone then (.float .f64 0) else (.float .f64 last.2.v.w)) ∧ W.cell? ⟨w.heap.size + 1 + 1, 0, none⟩ = some (.bool (!last.2.gone))) ∧ Below w.heap.size w W)
    (OwnFrom.and (fun _ _ _ _ hs _ _ => hs) (ownFrom_below (by omega) (by omega)))
    (fun c => OwnFrom.and (Own.from (fun s A B row hs hg hr => by obtain ⟨hc, ini, last, e1, e2, e3, q1, q2, q3, q4, e5⟩ := hs; exact ⟨hc, ini, last, e1, e2, e3, cell_kept q1 hg hr, cell_kept q2 hg hr, cell_kept q3 hg hr, cell_kept q4 hg hr, cell_kept e5 hg hr⟩) _) (ownFrom_below (Nat.le_refl _) (by omega)))
    ⟨by simp, Below.refl _ _⟩
    (fun x a' W => ∃ B : Nat, w.heap.size + 4 ≤ B ∧ Blk W B 280 [.int .i64 x.2.who, .int .i64 x.2.v.src, .int .i64 x.2.v.dst, .string x.2.v.ty, .float .f64 x.2.v.w, .bool x.2.gone] ∧ a' = { tmps := #[.pointer (some ⟨X, 0, none⟩), .func (.func 89) #[] lb, undef, .pointer (some ⟨w.heap.size, 0, none⟩), .pointer (some ⟨w.heap.size + 1, 0, none⟩), .pointer (some ⟨w.heap.size + 1 + 1, 0, none⟩), undef, .pointer (some ⟨B, 0, none⟩), .pointer (some ⟨X, 0, none⟩), .bool false, undef, .pointer (some ⟨X, 0, none⟩), .pointer (some ⟨X, 0, none⟩), .pointer (some ⟨X, 0, none⟩), .slice A l.length cap, .func (.func 238) #[] #[.pointer (some ⟨w.heap.size + 1 + 1 + 1, 0, none⟩)], .int .i64 (x.1 : Int), .agg #[.int .i64 x.2.who, .int .i64 x.2.v.src, .int .i64 x.2.v.dst, .string x.2.v.ty, .float .f64 x.2.v.w, .bool x.2.gone], undef, undef, undef, undef, undef, undef, undef, undef, undef, undef, undef], defers := [] })
    ?axown ?assign ?body ?done ?stop
  case axown =>
    rintro x a' _ W1 W2 row ⟨B, hB, hb, e⟩ hg hr
    refine ⟨B, hB, hb.grown hg ?_, e⟩
    rintro rfl
    obtain ⟨_, o, ho, hc⟩ := hr B rfl
    unfold Blk at hb
    rw [hb] at ho
    cases ho
    simp [Obj.isCells] at hc
  case assign =>
    intro lo pre x W K hI hK
    gi_wp2
    exact hK _ _ ((KeepsOthers.alloc W _).from _) ((Below.refl _ W).alloc (by have := hI.2.size; omega) _) ⟨hI.1, hI.2.alloc (by have := hI.2.size; omega) _⟩ ⟨W.heap.size, by have := hI.2.size; omega, Blk.new W 280 [.int .i64 x.2.who, .int .i64 x.2.v.src, .int .i64 x.2.v.dst, .string x.2.v.ty, .float .f64 x.2.v.w, .bool x.2.gone], rfl⟩
  case body =>
    rintro lo pre x a' W hlo hrec ⟨hpre, hBW⟩ ⟨B, hB, hb, rfl⟩ hlt
    have c0 := hb.cell 0
    have c1 := hb.cell 1
    have c2 := hb.cell 2
    have c3 := hb.cell 3
    have c4 := hb.cell 4
    have cg := hb.cell 5
    simp only [List.getElem?_cons_zero, List.getElem?_cons_succ] at c0 c1 c2 c3 c4 cg
    have hBw : Below w.heap.size w W := hB4.trans (hBW.mono (by omega))
    have m0 := (hBW.cell (p := ⟨w.heap.size, 0, none⟩) (by simp)).trans bM4.cell
    have v1 := (hBW.cell (p := ⟨w.heap.size + 1, 0, none⟩) (by simp)).trans (bV4.cell 0)
    have f1 := (hBW.frozen (p := ⟨w.heap.size + 1, 0, none⟩) (by simp)).trans (bV4.frozen 0)
    have v2 := (hBW.cell (p := ⟨w.heap.size + 1, 1, none⟩) (by simp)).trans (bV4.cell 1)
    have f2 := (hBW.frozen (p := ⟨w.heap.size + 1, 1, none⟩) (by simp)).trans (bV4.frozen 1)
    have v3 := (hBW.cell (p := ⟨w.heap.size + 1, 2, none⟩) (by simp)).trans (bV4.cell 2)
    have f3 := (hBW.frozen (p := ⟨w.heap.size + 1, 2, none⟩) (by simp)).trans (bV4.frozen 2)
    have v4 := (hBW.cell (p := ⟨w.heap.size + 1, 3, none⟩) (by simp)).trans (bV4.cell 3)
    have f4 := (hBW.frozen (p := ⟨w.heap.size + 1, 3, none⟩) (by simp)).trans (bV4.frozen 3)
    simp only [List.getElem?_cons_zero, List.getElem?_cons_succ] at v1 v2 v3 v4 
    have o0 := (hBW.cell (p := ⟨w.heap.size + 1 + 1, 0, none⟩) (by simp)).trans (bO4.cell 0)
    have o1 := (hBW.frozen (p := ⟨w.heap.size + 1 + 1, 0, none⟩) (by simp)).trans (bO4.frozen 0)
    simp only [List.getElem?_cons_zero] at o0
    obtain ⟨xi, ⟨who, v, gone⟩⟩ := x
    have ht' := ht W who hBw
    dsimp only at *
    have hb' := hid hb
    clear hb
    cases hp : p who
    · rw [hp] at ht'
      gi_wp2_with (gi_at_call 89; refine (CallsIn.inRound lo ht').mono ?_; rintro e w' ⟨rfl, hb1⟩)
      exact ⟨keepsFrom_of_below hb1 _, hb1.mono (by have := hBW.size; omega), fun x hx => (List.mem_append.1 hx).elim (hpre x) (fun e => by simp at e; subst e; exact hp), hBW.trans (hb1.mono (by have := hBW.size; omega))⟩
    · rw [hp] at ht'
      cases gone
      · gi_wp2_with (gi_at_call 89; refine (CallsIn.inRound lo ht').mono ?_; rintro e w' ⟨rfl, hb1⟩; have hsW := hBW.size; replace c0 := (hb1.cell (p := ⟨B, 0, none⟩) hb'.out.lt).trans c0; replace c1 := (hb1.cell (p := ⟨B, 1, none⟩) hb'.out.lt).trans c1; replace c2 := (hb1.cell (p := ⟨B, 2, none⟩) hb'.out.lt).trans c2; replace c3 := (hb1.cell (p := ⟨B, 3, none⟩) hb'.out.lt).trans c3; replace c4 := (hb1.cell (p := ⟨B, 4, none⟩) hb'.out.lt).trans c4; replace cg := (hb1.cell (p := ⟨B, 5, none⟩) hb'.out.lt).trans cg; replace v1 := (hb1.cell (p := ⟨w.heap.size + 1, 0, none⟩) (by simp; omega)).trans v1; replace f1 := (hb1.frozen (p := ⟨w.heap.size + 1, 0, none⟩) (by simp; omega)).trans f1; replace v2 := (hb1.cell (p := ⟨w.heap.size + 1, 1, none⟩) (by simp; omega)).trans v2; replace f2 := (hb1.frozen (p := ⟨w.heap.size + 1, 1, none⟩) (by simp; omega)).trans f2; replace v3 := (hb1.cell (p := ⟨w.heap.size + 1, 2, none⟩) (by simp; omega)).trans v3; replace f3 := (hb1.frozen (p := ⟨w.heap.size + 1, 2, none⟩) (by simp; omega)).trans f3; replace v4 := (hb1.cell (p := ⟨w.heap.size + 1, 3, none⟩) (by simp; omega)).trans v4; replace f4 := (hb1.frozen (p := ⟨w.heap.size + 1, 3, none⟩) (by simp; omega)).trans f4;  replace o0 := (hb1.cell (p := ⟨w.heap.size + 1 + 1, 0, none⟩) (by simp; omega)).trans o0; replace o1 := (hb1.frozen (p := ⟨w.heap.size + 1 + 1, 0, none⟩) (by simp; omega)).trans o1)
        have bVw : Blk w' (w.heap.size + 1) 38 [.int .i64 0, .int .i64 0, .string ⟨#[]⟩, .float .f64 0] := (hb1.block _ (by omega)).trans ((hBW.block _ (by omega)).trans bV4)
        have bOw : Blk w' (w.heap.size + 1 + 1) 4 [.bool false] := (hb1.block _ (by omega)).trans ((hBW.block _ (by omega)).trans bO4)
        have VV := ((((bVw.set_ 0 (.int .i64 v.src)).set_ 1 (.int .i64 v.dst)).set_ 2 (.string v.ty)).set_ 3 (.float .f64 v.w)).far (p := ⟨w.heap.size + 1 + 1, 0, none⟩) (by simp) (.bool true)
        have OO := ((((bOw.far (p := ⟨w.heap.size + 1, 0, none⟩) (by simp) (.int .i64 v.src)).far (p := ⟨w.heap.size + 1, 1, none⟩) (by simp) (.int .i64 v.dst)).far (p := ⟨w.heap.size + 1, 2, none⟩) (by simp) (.string v.ty)).far (p := ⟨w.heap.size + 1, 3, none⟩) (by simp) (.float .f64 v.w)).set_ 0 (.bool true)
        exact ⟨(keepsFrom_of_below hb1 _).trans ((((((KeepsOthers.setCell _ _ _).trans (KeepsOthers.setCell _ _ _)).trans (KeepsOthers.setCell _ _ _)).trans (KeepsOthers.setCell _ _ _)).trans (KeepsOthers.setCell _ _ _)).from _), ⟨rfl, pre, _, rfl, hpre, hp, (VV.cell 0).trans rfl, (VV.cell 1).trans rfl, (VV.cell 2).trans rfl, (VV.cell 3).trans rfl, (OO.cell 0).trans rfl⟩, ((((((hBw.trans (hb1.mono (by omega))).setCell (p := ⟨w.heap.size + 1, 0, none⟩) (by simp) _).setCell (p := ⟨w.heap.size + 1, 1, none⟩) (by simp) _).setCell (p := ⟨w.heap.size + 1, 2, none⟩) (by simp) _).setCell (p := ⟨w.heap.size + 1, 3, none⟩) (by simp) _).setCell (p := ⟨w.heap.size + 1 + 1, 0, none⟩) (by simp; omega) _)⟩
      · gi_wp2_with (gi_at_call 89; refine (CallsIn.inRound lo ht').mono ?_; rintro e w' ⟨rfl, hb1⟩; have hsW := hBW.size; replace c0 := (hb1.cell (p := ⟨B, 0, none⟩) hb'.out.lt).trans c0; replace c1 := (hb1.cell (p := ⟨B, 1, none⟩) hb'.out.lt).trans c1; replace c2 := (hb1.cell (p := ⟨B, 2, none⟩) hb'.out.lt).trans c2; replace c3 := (hb1.cell (p := ⟨B, 3, none⟩) hb'.out.lt).trans c3; replace c4 := (hb1.cell (p := ⟨B, 4, none⟩) hb'.out.lt).trans c4; replace cg := (hb1.cell (p := ⟨B, 5, none⟩) hb'.out.lt).trans cg; replace v1 := (hb1.cell (p := ⟨w.heap.size + 1, 0, none⟩) (by simp; omega)).trans v1; replace f1 := (hb1.frozen (p := ⟨w.heap.size + 1, 0, none⟩) (by simp; omega)).trans f1; replace v2 := (hb1.cell (p := ⟨w.heap.size + 1, 1, none⟩) (by simp; omega)).trans v2; replace f2 := (hb1.frozen (p := ⟨w.heap.size + 1, 1, none⟩) (by simp; omega)).trans f2; replace v3 := (hb1.cell (p := ⟨w.heap.size + 1, 2, none⟩) (by simp; omega)).trans v3; replace f3 := (hb1.frozen (p := ⟨w.heap.size + 1, 2, none⟩) (by simp; omega)).trans f3; replace v4 := (hb1.cell (p := ⟨w.heap.size + 1, 3, none⟩) (by simp; omega)).trans v4; replace f4 := (hb1.frozen (p := ⟨w.heap.size + 1, 3, none⟩) (by simp; omega)).trans f4;  replace o0 := (hb1.cell (p := ⟨w.heap.size + 1 + 1, 0, none⟩) (by simp; omega)).trans o0; replace o1 := (hb1.frozen (p := ⟨w.heap.size + 1 + 1, 0, none⟩) (by simp; omega)).trans o1)
        have bVw : Blk w' (w.heap.size + 1) 38 [.int .i64 0, .int .i64 0, .string ⟨#[]⟩, .float .f64 0] := (hb1.block _ (by omega)).trans ((hBW.block _ (by omega)).trans bV4)
        have bOw : Blk w' (w.heap.size + 1 + 1) 4 [.bool false] := (hb1.block _ (by omega)).trans ((hBW.block _ (by omega)).trans bO4)
        have VV := ((((bVw.set_ 0 (.int .i64 0)).set_ 1 (.int .i64 0)).set_ 2 (.string ⟨#[]⟩)).set_ 3 (.float .f64 0)).far (p := ⟨w.heap.size + 1 + 1, 0, none⟩) (by simp) (.bool false)
        have OO := ((((bOw.far (p := ⟨w.heap.size + 1, 0, none⟩) (by simp) (.int .i64 0)).far (p := ⟨w.heap.size + 1, 1, none⟩) (by simp) (.int .i64 0)).far (p := ⟨w.heap.size + 1, 2, none⟩) (by simp) (.string ⟨#[]⟩)).far (p := ⟨w.heap.size + 1, 3, none⟩) (by simp) (.float .f64 0)).set_ 0 (.bool false)
        exact ⟨(keepsFrom_of_below hb1 _).trans ((((((KeepsOthers.setCell _ _ _).trans (KeepsOthers.setCell _ _ _)).trans (KeepsOthers.setCell _ _ _)).trans (KeepsOthers.setCell _ _ _)).trans (KeepsOthers.setCell _ _ _)).from _), ⟨rfl, pre, _, rfl, hpre, hp, (VV.cell 0).trans rfl, (VV.cell 1).trans rfl, (VV.cell 2).trans rfl, (VV.cell 3).trans rfl, (OO.cell 0).trans rfl⟩, ((((((hBw.trans (hb1.mono (by omega))).setCell (p := ⟨w.heap.size + 1, 0, none⟩) (by simp) _).setCell (p := ⟨w.heap.size + 1, 1, none⟩) (by simp) _).setCell (p := ⟨w.heap.size + 1, 2, none⟩) (by simp) _).setCell (p := ⟨w.heap.size + 1, 3, none⟩) (by simp) _).setCell (p := ⟨w.heap.size + 1 + 1, 0, none⟩) (by simp; omega) _)⟩
  case done =>
    rintro D ys W hD hys ⟨hne, hBW⟩ hK
    have v1 := (hBW.cell (p := ⟨w.heap.size + 1, 0, none⟩) (by simp)).trans (bV4.cell 0)
    have f1 := (hBW.frozen (p := ⟨w.heap.size + 1, 0, none⟩) (by simp)).trans (bV4.frozen 0)
    have v2 := (hBW.cell (p := ⟨w.heap.size + 1, 1, none⟩) (by simp)).trans (bV4.cell 1)
    have f2 := (hBW.frozen (p := ⟨w.heap.size + 1, 1, none⟩) (by simp)).trans (bV4.frozen 1)
    have v3 := (hBW.cell (p := ⟨w.heap.size + 1, 2, none⟩) (by simp)).trans (bV4.cell 2)
    have f3 := (hBW.frozen (p := ⟨w.heap.size + 1, 2, none⟩) (by simp)).trans (bV4.frozen 2)
    have v4 := (hBW.cell (p := ⟨w.heap.size + 1, 3, none⟩) (by simp)).trans (bV4.cell 3)
    have f4 := (hBW.frozen (p := ⟨w.heap.size + 1, 3, none⟩) (by simp)).trans (bV4.frozen 3)
    simp only [List.getElem?_cons_zero, List.getElem?_cons_succ] at v1 v2 v3 v4 
    have o0 := (hBW.cell (p := ⟨w.heap.size + 1 + 1, 0, none⟩) (by simp)).trans (bO4.cell 0)
    have o1 := (hBW.frozen (p := ⟨w.heap.size + 1 + 1, 0, none⟩) (by simp)).trans (bO4.frozen 0)
    simp only [List.getElem?_cons_zero] at o0
    have hys' := hid hys
    clear hys
    gi_wp2
    have hK' : (((((W.setCell ⟨w.heap.size + 1, 0, none⟩ (.int .i64 0)).setCell ⟨w.heap.size + 1, 1, none⟩ (.int .i64 0)).setCell ⟨w.heap.size + 1, 2, none⟩ (.string ⟨#[]⟩)).setCell ⟨w.heap.size + 1, 3, none⟩ (.float .f64 0)).setCell ⟨w.heap.size + 1 + 1, 0, none⟩ (.bool false)).heap[D]? = some (.deferred (some [])) := (((((KeepsOthers.setCell _ _ _).trans (KeepsOthers.setCell _ _ _)).trans (KeepsOthers.setCell _ _ _)).trans (KeepsOthers.setCell _ _ _)).trans (KeepsOthers.setCell _ _ _)).same D _ hK rfl
    have bVw : Blk W (w.heap.size + 1) 38 [.int .i64 0, .int .i64 0, .string ⟨#[]⟩, .float .f64 0] := (hBW.block _ (by omega)).trans bV4
    have bOw : Blk W (w.heap.size + 1 + 1) 4 [.bool false] := (hBW.block _ (by omega)).trans bO4
    have VV := ((((bVw.set_ 0 (.int .i64 0)).set_ 1 (.int .i64 0)).set_ 2 (.string ⟨#[]⟩)).set_ 3 (.float .f64 0)).far (p := ⟨w.heap.size + 1 + 1, 0, none⟩) (by simp) (.bool false)
    have OO := ((((bOw.far (p := ⟨w.heap.size + 1, 0, none⟩) (by simp) (.int .i64 0)).far (p := ⟨w.heap.size + 1, 1, none⟩) (by simp) (.int .i64 0)).far (p := ⟨w.heap.size + 1, 2, none⟩) (by simp) (.string ⟨#[]⟩)).far (p := ⟨w.heap.size + 1, 3, none⟩) (by simp) (.float .f64 0)).set_ 0 (.bool false)
    have g1 := cell_kept ((VV.cell 0).trans rfl) (grownBy_putObj' _ D (.deferred none)) (fun r e => by cases e; exact ⟨_, hK', rfl⟩)
    have g2 := cell_kept ((VV.cell 1).trans rfl) (grownBy_putObj' _ D (.deferred none)) (fun r e => by cases e; exact ⟨_, hK', rfl⟩)
    have g3 := cell_kept ((VV.cell 2).trans rfl) (grownBy_putObj' _ D (.deferred none)) (fun r e => by cases e; exact ⟨_, hK', rfl⟩)
    have g4 := cell_kept ((VV.cell 3).trans rfl) (grownBy_putObj' _ D (.deferred none)) (fun r e => by cases e; exact ⟨_, hK', rfl⟩)
    have f2 := cell_kept ((OO.cell 0).trans rfl) (grownBy_putObj' _ D (.deferred none)) (fun r e => by cases e; exact ⟨_, hK', rfl⟩)
    have hBe : Below w.heap.size w (((((W.setCell ⟨w.heap.size + 1, 0, none⟩ (.int .i64 0)).setCell ⟨w.heap.size + 1, 1, none⟩ (.int .i64 0)).setCell ⟨w.heap.size + 1, 2, none⟩ (.string ⟨#[]⟩)).setCell ⟨w.heap.size + 1, 3, none⟩ (.float .f64 0)).setCell ⟨w.heap.size + 1 + 1, 0, none⟩ (.bool false)) := ((((((hB4.trans (hBW.mono (by omega))).setCell (p := ⟨w.heap.size + 1, 0, none⟩) (by simp) _).setCell (p := ⟨w.heap.size + 1, 1, none⟩) (by simp) _).setCell (p := ⟨w.heap.size + 1, 2, none⟩) (by simp) _).setCell (p := ⟨w.heap.size + 1, 3, none⟩) (by simp) _).setCell (p := ⟨w.heap.size + 1 + 1, 0, none⟩) (by simp; omega) _)
    refine ⟨by simp, .inl ⟨_, _, rfl, run_takeDeferred hK', .tuple #[.agg #[.int .i64 0, .int .i64 0, .string ⟨#[]⟩, .float .f64 0], .bool false], ?_, ⟨⟨0, 0, ⟨#[]⟩, 0⟩, ?_, ?_⟩, ?_⟩⟩
    · simp [results, Tryz.f88, go_sem, g1, g2, g3, g4, f2]
    · rw [lastBy_none hys'.out hne]; rfl
    · rw [lastBy_none hys'.out hne]; rfl
    · exact hBe.trans (belowK_b (w := w) (Nat.le_refl _) _ D _ _ (by omega) hK' rfl rfl)
  case stop =>
    rintro D c pre W hD hpre ⟨⟨rfl, ini, last, e1, e2, e3, q1, q2, q3, q4, e5⟩, hB⟩ hK
    have HP := hid hpre
    have HE := hid e1
    clear hpre e1
    gi_wp2
    have g1 := cell_kept q1 (grownBy_putObj' _ D (.deferred none)) (fun r e => by cases e; exact ⟨_, hK, rfl⟩)
    have g2 := cell_kept q2 (grownBy_putObj' _ D (.deferred none)) (fun r e => by cases e; exact ⟨_, hK, rfl⟩)
    have g3 := cell_kept q3 (grownBy_putObj' _ D (.deferred none)) (fun r e => by cases e; exact ⟨_, hK, rfl⟩)
    have g4 := cell_kept q4 (grownBy_putObj' _ D (.deferred none)) (fun r e => by cases e; exact ⟨_, hK, rfl⟩)
    have hh := trivial
    have f2 := cell_kept e5 (grownBy_putObj' _ D (.deferred none)) (fun r e => by cases e; exact ⟨_, hK, rfl⟩)
    refine ⟨by simp, .inl ⟨_, _, rfl, run_takeDeferred hK, .tuple #[.agg #[if last.2.gone = true then (.int .i64 0) else (.int .i64 last.2.v.src), if last.2.gone = true then (.int .i64 0) else (.int .i64 last.2.v.dst), if last.2.gone = true then (.string ⟨#[]⟩) else (.string last.2.v.ty), if last.2.gone = true then (.float .f64 0) else (.float .f64 last.2.v.w)], .bool (!last.2.gone)], ?_, ⟨(if last.2.gone = true then ⟨0, 0, ⟨#[]⟩, 0⟩ else last.2.v), ?_, ?_⟩, ?_⟩⟩
    · simp [results, Tryz.f88, go_sem, g1, g2, g3, g4, f2]
    · rw [lastBy_hit HP.out HE.out e2 e3]
      cases last.2.gone <;> rfl
    · rw [lastBy_hit HP.out HE.out e2 e3]
      cases last.2.gone <;> rfl
    · exact hB.trans (belowK_b (w := w) (Nat.le_refl _) _ D _ _ (by omega) hK rfl rfl)
end Go.Proofs.YtdfkdgnhpdgphaaGreatDoor.Edg
