/-
  A cell of ints: last, over whatever is meant.
-/
import Derived.Shelf.Abstract
import Derived.Test.YtdgojfjaooindaaCelD
namespace Go.Proofs.Ytdgojfjaooindaa
open Go.RowKit Go.Shelf Go.Proofs.Lig
attribute [local go_sem] Oper.semAt_some

theorem CelA.vers {w : World} {X : Nat} {A : Option Addr} {cap : Nat} {l : List (Ver Int)} (h : CelA w X A cap l) : Vers w.heap.size w A l := fun j y hy => by
  obtain ⟨g, rfl, hg⟩ := h.form (by have := (List.getElem?_eq_some_iff.1 hy).1; omega)
  obtain ⟨a, b, c⟩ := row_ver h.own hy
  exact ⟨g, rfl, hg, a, b, c⟩
theorem keepsFrom_of_below {W W' : World} (h : Below W.heap.size W W') (B : Nat) : KeepsFrom B W W' :=
  ⟨h.size, fun i _ _ hi _ => (h.block i (Array.getElem?_eq_some_iff.1 hi).1).trans hi⟩

theorem lastBy_none {p : Int → Bool} {l : List (Ver Int)} {ys : List (Nat × Ver Int)} (e : ys.map (·.2) = l.reverse) (h : ∀ x ∈ ys, p x.2.who = false) : Cel.lastBy p l = none := by
  unfold Cel.lastBy
  rw [← e, List.find?_eq_none.2 (by intro y hy; obtain ⟨x, hx, rfl⟩ := List.mem_map.1 hy; simpa using h x hx)]
theorem lastBy_hit {p : Int → Bool} {l : List (Ver Int)} {pre ini : List (Nat × Ver Int)} {last : Nat × Ver Int} (e : pre.map (·.2) <+: l.reverse) (e1 : pre = ini ++ [last]) (h : ∀ x ∈ ini, p x.2.who = false) (hl : p last.2.who = true) : Cel.lastBy p l = if last.2.gone then none else some last.2.v := by
  obtain ⟨r, hr⟩ := e
  unfold Cel.lastBy
  rw [← hr, e1]
  have : (ini.map (·.2)).find? (fun y => p y.who) = none := List.find?_eq_none.2 (by intro y hy; obtain ⟨x, hx, rfl⟩ := List.mem_map.1 hy; simpa using h x hx)
  simp only [List.map_append, List.map_cons, List.map_nil, List.append_assoc, List.find?_append, this, List.cons_append, List.nil_append, List.find?_cons, hl, Option.none_or]

set_option maxRecDepth 100000 in
set_option maxHeartbeats 4000000 in
theorem cel_last_in (F : Fence) (hall : ∀ f, F.fn f) (hro : F.round = none) (w : World) (X : Nat) (A : Option Addr) (cap : Nat) (l : List (Ver Int)) (lb : Array Value) (p : Int → Bool) (h : CelA w X A cap l)
    (ht : ∀ (W : World) (who : Int), Below w.heap.size w W → CallsIn F 0 Try.prog 62 (#[.int .i64 who] ++ lb) W fun e W' => e = .returned (.bool (p who)) ∧ Below W.heap.size W W') :
    CallsIn F 3 Try.prog 61 #[.pointer (some ⟨X, 0, none⟩), .func (.func 62) #[] lb] w fun e w' =>
      (∃ v : Int, e = .returned (.tuple #[.int .i64 v, .bool (Cel.lastBy p l).isSome]) ∧ v = (Cel.lastBy p l).getD 0) ∧ Below w.heap.size w w' := by
  have h75 : F.fn 75 := hall _
  have h84 : F.fn 84 := hall _
  have hfm : F.fn 62 := hall _
  have hc0 := h.blk.cell 0
  have hXl := h.blk.lt
  simp only [List.getElem?_cons_zero] at hc0
  have hB3 : Below w.heap.size w (((w.alloc (.cells #[.func (.func 62) #[] lb] 30)).alloc (.cells #[.int .i64 0] 3)).alloc (.cells #[.bool false] 4)) := (((Below.refl _ w).alloc (Nat.le_refl _) _).alloc (by simp) _).alloc (by simp; omega) _
  have hc1 := (hB3.cell (p := ⟨X, 0, none⟩) hXl).trans hc0
  refine callsIn_of_wp_marks Try.func61 rfl (hall _) ?_ hro
  simp only [Try.ntmps61, List.size_toArray, List.length_cons, List.length_nil, Nat.reduceAdd, Nat.reduceSub, Array.replicate_succ, Array.replicate_zero, List.push_toArray, List.append_toArray, List.nil_append, List.cons_append]
  gi_wp2_with (gi_at_call 75; refine (backward_in F _ h75 hro _ _ _ _).mono ?_; rintro e w' ⟨rfl, rfl⟩)
  have bM := Boxed.new w 30 (.func (.func 62) #[] lb)
  have bV := Boxed.new (w.alloc (.cells #[.func (.func 62) #[] lb] 30)) 3 (.int .i64 0)
  have bO := Boxed.new ((w.alloc (.cells #[.func (.func 62) #[] lb] 30)).alloc (.cells #[.int .i64 0] 3)) 4 (.bool false)
  have bN := Boxed.new (((w.alloc (.cells #[.func (.func 62) #[] lb] 30)).alloc (.cells #[.int .i64 0] 3)).alloc (.cells #[.bool false] 4)) 91 (.slice A l.length cap)
  simp only [World.size_alloc] at bV bO bN
  have bM4 := ((bM.alloc (.cells #[.int .i64 0] 3)).alloc (.cells #[.bool false] 4)).alloc (.cells #[.slice A l.length cap] 91)
  have bV4 := (bV.alloc (.cells #[.bool false] 4)).alloc (.cells #[.slice A l.length cap] 91)
  have bO4 := bO.alloc (.cells #[.slice A l.length cap] 91)
  have hB4 := hB3.alloc (by simp; omega) (.cells #[.slice A l.length cap] 91)
  generalize hW0 : ((((w.alloc (.cells #[.func (.func 62) #[] lb] 30)).alloc (.cells #[.int .i64 0] 3)).alloc (.cells #[.bool false] 4)).alloc (.cells #[.slice A l.length cap] 91)) = W0 at *
  have hsz : W0.heap.size = w.heap.size + 4 := by rw [← hW0]; simp
  clear hB3 hc1 bM bV bO hW0
  refine wpIn_rangeFunc_ownH (α := Nat × Ver Int) hro (by omega) (gf := 84) (lb := #[.pointer (some ⟨w.heap.size + 1 + 1 + 1, 0, none⟩)]) rfl h84 (enters_of Try.func84 (by kernel_rfl) rfl)
    (backward_stops F 2 h84 hro (by omega) (w.heap.size + 1 + 1 + 1) (w.heap.size + 4) A cap l h.len W0 (by omega) (by omega) (by omega) bN.cell (fun j y hy => by
      obtain ⟨g, e, hg, c⟩ := Vers.below hB4 h.vers j y hy
      exact ⟨g, e, by omega, c⟩)) belowK_t (belowK_b (by omega)) (Below.refl _ _) (fun _ => rfl)
    (fun pre W => (∀ x ∈ pre, p x.2.who = false) ∧ Below (w.heap.size + 4) W0 W)
    (fun c pre W => (c = .ret ∧ ∃ ini last, pre = ini ++ [last] ∧ (∀ x ∈ ini, p x.2.who = false) ∧ p last.2.who = true ∧ W.cell? ⟨w.heap.size + 1, 0, none⟩ = some (.int .i64 (if last.2.gone then 0 else last.2.v)) ∧ W.cell? ⟨w.heap.size + 1 + 1, 0, none⟩ = some (.bool (!last.2.gone))) ∧ Below w.heap.size w W)
    (OwnFrom.and (fun _ _ _ _ hs _ _ => hs) (ownFrom_below (by omega) (by omega)))
    (fun c => OwnFrom.and (Own.from (fun s A B row hs hg hr => by obtain ⟨hc, ini, last, e1, e2, e3, e4, e5⟩ := hs; exact ⟨hc, ini, last, e1, e2, e3, cell_kept e4 hg hr, cell_kept e5 hg hr⟩) _) (ownFrom_below (Nat.le_refl _) (by omega)))
    ⟨by simp, Below.refl _ _⟩
    (fun x a' W => ∃ B : Nat, w.heap.size + 4 ≤ B ∧ Blk W B 95 [.int .i64 x.2.who, .int .i64 x.2.v, .bool x.2.gone] ∧ a' = { tmps := #[.pointer (some ⟨X, 0, none⟩), .func (.func 62) #[] lb, undef, .pointer (some ⟨w.heap.size, 0, none⟩), .pointer (some ⟨w.heap.size + 1, 0, none⟩), .pointer (some ⟨w.heap.size + 1 + 1, 0, none⟩), undef, .pointer (some ⟨B, 0, none⟩), .pointer (some ⟨X, 0, none⟩), .bool false, undef, .pointer (some ⟨X, 0, none⟩), .pointer (some ⟨X, 0, none⟩), .pointer (some ⟨X, 0, none⟩), .slice A l.length cap, .func (.func 84) #[] #[.pointer (some ⟨w.heap.size + 1 + 1 + 1, 0, none⟩)], .int .i64 (x.1 : Int), .agg #[.int .i64 x.2.who, .int .i64 x.2.v, .bool x.2.gone], undef, undef, undef, undef, undef, undef, undef, undef, undef, undef, undef], defers := [] })
    ?axown ?assign ?body ?done ?stop
  case axown =>
    rintro x a' _ W1 W2 row ⟨B, hB, hb, e⟩ hg hr
    refine ⟨B, hB, hb.grown hg ?_, e⟩
    rintro rfl
    obtain ⟨_, o, ho, hc⟩ := hr B rfl
    unfold Blk at hb
    rw [hb] at ho
    cases ho
    simp [Obj.isCells] at hc
  case assign =>
    intro lo pre x W K hI hK
    gi_wp2
    exact hK _ _ ((KeepsOthers.alloc W _).from _) ((Below.refl _ W).alloc (by have := hI.2.size; omega) _) ⟨hI.1, hI.2.alloc (by have := hI.2.size; omega) _⟩ ⟨W.heap.size, by have := hI.2.size; omega, Blk.new W 95 [.int .i64 x.2.who, .int .i64 x.2.v, .bool x.2.gone], rfl⟩
  case body =>
    rintro lo pre x a' W hlo hrec ⟨hpre, hBW⟩ ⟨B, hB, hb, rfl⟩ hlt
    have c0 := hb.cell 0
    have c1 := hb.cell 1
    have c2 := hb.cell 2
    simp only [List.getElem?_cons_zero, List.getElem?_cons_succ] at c0 c1 c2
    have hBw : Below w.heap.size w W := hB4.trans (hBW.mono (by omega))
    have m0 := (hBW.cell (p := ⟨w.heap.size, 0, none⟩) (by simp)).trans bM4.cell
    have v0 := (hBW.cell (p := ⟨w.heap.size + 1, 0, none⟩) (by simp)).trans bV4.cell
    have v1 := (hBW.frozen (p := ⟨w.heap.size + 1, 0, none⟩) (by simp)).trans bV4.frozen
    have o0 := (hBW.cell (p := ⟨w.heap.size + 1 + 1, 0, none⟩) (by simp)).trans bO4.cell
    have o1 := (hBW.frozen (p := ⟨w.heap.size + 1 + 1, 0, none⟩) (by simp)).trans bO4.frozen
    obtain ⟨xi, ⟨who, v, gone⟩⟩ := x
    have ht' := ht W who hBw
    dsimp only at *
    have hb' := hid hb
    clear hb
    cases hp : p who
    · rw [hp] at ht'
      gi_wp2_with (gi_at_call 62; refine (CallsIn.inRound lo ht').mono ?_; rintro e w' ⟨rfl, hb1⟩)
      exact ⟨keepsFrom_of_below hb1 _, hb1.mono (by have := hBW.size; omega), fun x hx => (List.mem_append.1 hx).elim (hpre x) (fun e => by simp at e; subst e; exact hp), hBW.trans (hb1.mono (by have := hBW.size; omega))⟩
    · rw [hp] at ht'
      cases gone
      · gi_wp2_with (gi_at_call 62; refine (CallsIn.inRound lo ht').mono ?_; rintro e w' ⟨rfl, hb1⟩; have hsW := hBW.size; replace c0 := (hb1.cell (p := ⟨B, 0, none⟩) hb'.out.lt).trans c0; replace c1 := (hb1.cell (p := ⟨B, 1, none⟩) hb'.out.lt).trans c1; replace c2 := (hb1.cell (p := ⟨B, 2, none⟩) hb'.out.lt).trans c2; replace v0 := (hb1.cell (p := ⟨w.heap.size + 1, 0, none⟩) (by simp; omega)).trans v0; replace v1 := (hb1.frozen (p := ⟨w.heap.size + 1, 0, none⟩) (by simp; omega)).trans v1; replace o0 := (hb1.cell (p := ⟨w.heap.size + 1 + 1, 0, none⟩) (by simp; omega)).trans o0; replace o1 := (hb1.frozen (p := ⟨w.heap.size + 1 + 1, 0, none⟩) (by simp; omega)).trans o1)
        have bVw : Boxed w' (w.heap.size + 1) 3 (.int .i64 0) := (hb1.block _ (by omega)).trans ((hBW.block _ (by omega)).trans bV4)
        have bOw : Boxed w' (w.heap.size + 1 + 1) 4 (.bool false) := (hb1.block _ (by omega)).trans ((hBW.block _ (by omega)).trans bO4)
        exact ⟨(keepsFrom_of_below hb1 _).trans (((KeepsOthers.setCell _ _ _).trans (KeepsOthers.setCell _ _ _)).from _), ⟨rfl, pre, _, rfl, hpre, hp, ((bVw.set (.int .i64 v)).other (by omega) _).cell, ((bOw.other (by omega) _).set _).cell⟩, ((hBw.trans (hb1.mono (by omega))).setCell (by simp) _).setCell (by simp; omega) _⟩
      · gi_wp2_with (gi_at_call 62; refine (CallsIn.inRound lo ht').mono ?_; rintro e w' ⟨rfl, hb1⟩; have hsW := hBW.size; replace c0 := (hb1.cell (p := ⟨B, 0, none⟩) hb'.out.lt).trans c0; replace c1 := (hb1.cell (p := ⟨B, 1, none⟩) hb'.out.lt).trans c1; replace c2 := (hb1.cell (p := ⟨B, 2, none⟩) hb'.out.lt).trans c2; replace v0 := (hb1.cell (p := ⟨w.heap.size + 1, 0, none⟩) (by simp; omega)).trans v0; replace v1 := (hb1.frozen (p := ⟨w.heap.size + 1, 0, none⟩) (by simp; omega)).trans v1; replace o0 := (hb1.cell (p := ⟨w.heap.size + 1 + 1, 0, none⟩) (by simp; omega)).trans o0; replace o1 := (hb1.frozen (p := ⟨w.heap.size + 1 + 1, 0, none⟩) (by simp; omega)).trans o1)
        have bVw : Boxed w' (w.heap.size + 1) 3 (.int .i64 0) := (hb1.block _ (by omega)).trans ((hBW.block _ (by omega)).trans bV4)
        have bOw : Boxed w' (w.heap.size + 1 + 1) 4 (.bool false) := (hb1.block _ (by omega)).trans ((hBW.block _ (by omega)).trans bO4)
        exact ⟨(keepsFrom_of_below hb1 _).trans (((KeepsOthers.setCell _ _ _).trans (KeepsOthers.setCell _ _ _)).from _), ⟨rfl, pre, _, rfl, hpre, hp, ((bVw.set (.int .i64 0)).other (by omega) _).cell, ((bOw.other (by omega) _).set _).cell⟩, ((hBw.trans (hb1.mono (by omega))).setCell (by simp) _).setCell (by simp; omega) _⟩
  case done =>
    rintro D ys W hD hys ⟨hne, hBW⟩ hK
    have v0 := (hBW.cell (p := ⟨w.heap.size + 1, 0, none⟩) (by simp)).trans bV4.cell
    have v1 := (hBW.frozen (p := ⟨w.heap.size + 1, 0, none⟩) (by simp)).trans bV4.frozen
    have o0 := (hBW.cell (p := ⟨w.heap.size + 1 + 1, 0, none⟩) (by simp)).trans bO4.cell
    have o1 := (hBW.frozen (p := ⟨w.heap.size + 1 + 1, 0, none⟩) (by simp)).trans bO4.frozen
    have hys' := hid hys
    clear hys
    gi_wp2
    have hK' : ((W.setCell ⟨w.heap.size + 1, 0, none⟩ (.int .i64 0)).setCell ⟨w.heap.size + 1 + 1, 0, none⟩ (.bool false)).heap[D]? = some (.deferred (some [])) := ((KeepsOthers.setCell W _ _).trans (KeepsOthers.setCell _ _ _)).same D _ hK rfl
    have bVw : Boxed W (w.heap.size + 1) 3 (.int .i64 0) := (hBW.block _ (by omega)).trans bV4
    have bOw : Boxed W (w.heap.size + 1 + 1) 4 (.bool false) := (hBW.block _ (by omega)).trans bO4
    have f1 := cell_kept ((bVw.set (.int .i64 0)).other (B' := w.heap.size + 1 + 1) (by omega) (.bool false)).cell (grownBy_putObj' _ D (.deferred none)) (fun r e => by cases e; exact ⟨_, hK', rfl⟩)
    have f2 := cell_kept ((bOw.other (B' := w.heap.size + 1) (by omega) (.int .i64 0)).set (.bool false)).cell (grownBy_putObj' _ D (.deferred none)) (fun r e => by cases e; exact ⟨_, hK', rfl⟩)
    have hBe := ((hB4.trans (hBW.mono (by omega))).setCell (p := ⟨w.heap.size + 1, 0, none⟩) (by simp) (.int .i64 0)).setCell (p := ⟨w.heap.size + 1 + 1, 0, none⟩) (by simp; omega) (.bool false)
    refine ⟨by simp, .inl ⟨_, _, rfl, run_takeDeferred hK', .tuple #[.int .i64 0, .bool false], ?_, ⟨0, ?_, ?_⟩, ?_⟩⟩
    · simp [results, Try.f61, go_sem, f1, f2]
    · rw [lastBy_none hys'.out hne]; rfl
    · rw [lastBy_none hys'.out hne]; rfl
    · exact hBe.trans (belowK_b (w := w) (Nat.le_refl _) _ D _ _ (by omega) hK' rfl rfl)
  case stop =>
    rintro D c pre W hD hpre ⟨⟨rfl, ini, last, e1, e2, e3, e4, e5⟩, hB⟩ hK
    have HP := hid hpre
    have HE := hid e1
    clear hpre e1
    gi_wp2
    have f1 := cell_kept e4 (grownBy_putObj' _ D (.deferred none)) (fun r e => by cases e; exact ⟨_, hK, rfl⟩)
    have f2 := cell_kept e5 (grownBy_putObj' _ D (.deferred none)) (fun r e => by cases e; exact ⟨_, hK, rfl⟩)
    refine ⟨by simp, .inl ⟨_, _, rfl, run_takeDeferred hK, .tuple #[.int .i64 (if last.2.gone = true then 0 else last.2.v), .bool (!last.2.gone)], ?_, ⟨_, ?_, rfl⟩, ?_⟩⟩
    · simp [results, Try.f61, go_sem, f1, f2]
    · rw [lastBy_hit HP.out HE.out e2 e3]
      cases last.2.gone <;> rfl
    · exact hB.trans (belowK_b (w := w) (Nat.le_refl _) _ D _ _ (by omega) hK rfl rfl)
end Go.Proofs.Ytdgojfjaooindaa
