/-
  ligaturetop: begin, image; store.Live; known.
-/
import Derived.Test.YtdfkdgnhpdgphaaGreatDoorSkw36
import Derived.Test.YtdfkdgnhpdgphaaGreatDoorSkw38
namespace Go.Proofs.YtdfkdgnhpdgphaaGreatDoor
open Go.RowKit Go.Proofs.Lig

abbrev d00 : StoD := ⟨Clk.new, [], [], [], none, none⟩
set_option maxRecDepth 100000 in
theorem top_begin (w : World) (n : Nat) (hn4 : 4 ≤ n) (hn : n ≤ 200) :
    Calls Tryz.prog 7 #[.int .i64 (n : Int)] w fun e w' => ∃ B s L D G M y, e = .returned (.tuple #[pt B, pt D, pt y]) ∧ DbQ w' w.heap.size D G M n B s L (dbCells s L 0 0 0 0 0) d00 0 0 ∧ Below w.heap.size w w' := by
  have HN4 := hid hn4
  have HN := hid hn
  clear hn4 hn
  go_enter Tryz.func7, Tryz.ntmps7
  go_wp2_with fail
  refine (drum_new w n HN.out).mono ?_
  rintro e w1 ⟨D, G, M, rfl, D1, b1⟩
  have HD1 := hid D1
  have HB1 := hid b1
  clear D1 b1
  go_wp2_with fail
  refine (db_open0 w1 w.heap.size D G M n _ _ _ _ HD1.out HN4.out HN.out (w.heap.size ≤ ·) (NewO.ofLe HB1.out.size)).mono ?_
  rintro e w2 ⟨B, s, L, A, cap, rfl, lB, ls, lL, K2, S2, L2, R2, b2⟩
  have HQ2 : Hid (DbQ w2 w.heap.size D G M n B s L (dbCells s L 0 0 0 0 0) d00 0 0) := ⟨K2, S2, ⟨⟨_, _, _, _, _, by omega, HD1.out.below b2⟩, 0, 0, w1.heap.size, A, cap, [], by omega, L2, R2, by simp⟩, rfl, rfl, Nat.le_trans HB1.out.size lB, Nat.le_trans HB1.out.size lL⟩
  have HB2 := hid (bstep0 HB1.out b2)
  clear lB ls lL K2 S2 L2 R2 b2
  go_wp2_with fail
  refine (ref_new w2 n HN.out).mono ?_
  rintro e w3 ⟨D', v, A', cap', rfl, k3, o3, b3⟩
  have HR3 := hid (ref_of w3 D' v A' n cap' _ k3 o3 (by have := HN4.out; omega))
  have HQ3 := hid (HQ2.out.below b3)
  have HB3 := hid (bstep0 HB2.out b3)
  clear k3 o3 b3
  go_wp2_with fail
  refine (ref_db w3 D' n HR3.out HN4.out HN.out).mono ?_
  rintro e w4 ⟨y, rfl, b4⟩
  have HQ4 := hid (HQ3.out.below b4)
  have HB4 := hid (bstep0 HB3.out b4)
  clear b4
  go_wp2_with fail
  refine (db_store w4 B s L 0 0 0 0 0 HQ4.out.db).mono ?_
  rintro e w5 ⟨rfl, rfl⟩
  go_wp2_with fail
  exact bodyPost_ret (v := .tuple #[pt B, pt D, pt y]) (by simp [results, Tryz.results7, go_sem]) rfl ⟨B, s, L, D, G, M, y, rfl, HQ4.out, HB4.out⟩
set_option maxRecDepth 100000 in
theorem sto_live (O : Nat → Prop) (w : World) (s : Nat) (d : StoD) (h : Sto O w s d) (v : Int) (hv : (d.c.count : Int) = v) :
    Calls Tryz.prog 28 #[pt s] w fun e w' => e = .returned (.int .i64 v) ∧ Below w.heap.size w w' := by
  obtain ⟨p, h⟩ := h
  obtain ⟨S, hc, hS⟩ := h.clk
  have HC := hid (count_S w p.C S d.c hc v hv)
  have c0 : w.cell? ⟨s, 0, none⟩ = some (pt p.C) := h.blk.cell 0
  clear h hc hS hv
  go_enter Tryz.func28, Tryz.ntmps28
  go_wp2_with fail
  refine HC.out.mono ?_
  rintro e w1 ⟨rfl, b1⟩
  have HB := hid b1
  clear b1
  go_wp2_with fail
  go_ret
  exact ⟨rfl, HB.out⟩
set_option maxRecDepth 100000 in
theorem top_image (O : Nat → Prop) (w : World) (s : Nat) (d : StoD) (h : Sto O w s d) (hn : d.ns.length ≤ 400) (he : d.es.length ≤ 400) (m : Nat) (hm : (imageWrs d).length = m) :
    Calls Tryz.prog 15 #[pt s] w fun e w' => ∃ A cap, e = .returned (.slice A m cap) ∧ Below w.heap.size w w' := by
  subst hm
  obtain ⟨p, h⟩ := h
  have HI := hid (sto_image h hn he)
  clear h hn he
  go_enter Tryz.func15, Tryz.ntmps15
  go_wp2_with fail
  refine HI.out.mono ?_
  rintro e w1 ⟨A, cap, rfl, W1, b1⟩
  have HB := hid b1
  clear W1 b1
  go_wp2_with fail
  go_ret
  exact ⟨A, cap, rfl, HB.out⟩
/-- An answer, spelt out. -/
abbrev ansLit (err id : Int) : Value := .agg #[.int .i64 err, .int .i64 id, .slice none 0 0, .slice none 0 0, .slice none 0 0, .int .i64 0, .int .i64 0, .string ⟨#[]⟩, .float .f64 0, .slice none 0 0, .float .f64 0, .bool false]
set_option maxRecDepth 100000 in
theorem top_known (w : World) : Calls Tryz.prog 10 #[] w fun e w' => e = .returned (.bool true) ∧ Below w.heap.size w w' := by
  go_enter Tryz.func10, Tryz.ntmps10
  go_wp2_with fail
  refine (top_begin w 10 (by omega) (by omega)).mono ?_
  rintro e w1 ⟨B, s, L, D, G, M, y, rfl, Q1, b1⟩
  have HA : Hid (Calls Tryz.prog 9 #[pt B, .int .i64 0, opVal 1 0 z0] w1 fun e w' => e = .returned (ansLit 0 0) ∧ DbQ w' w.heap.size D G M 10 B s L (dbCells s L 1 0 0 0 0) { d00 with c := Clk.new.began } 0 0 ∧ Below w.heap.size w1 w' ∧ TFr comT w1 w') :=
    ask_begin_q Q1 0 (by omega) rfl (by decide) (by decide) 1 (by decide) (dbCells s L 1 0 0 0 0) rfl rfl rfl
  have HB1 := hid b1
  have hfd : ∀ w : World, (Instr.field 41 (ansLit 0 0) 0).run Tryz.prog w = .ok (.int .i64 0) w := fun _ => by kernel_rfl
  clear b1 Q1
  go_wp2_with fail
  refine HA.out.mono ?_
  rintro e w2 ⟨rfl, Q2, b2, _⟩
  have HQ2 := hid Q2
  have HB2 := hid (HB1.out.trans b2)
  clear Q2 b2
  go_wp2_with fail
  refine (db_store w2 B s L 1 0 0 0 0 HQ2.out.db).mono ?_
  rintro e w3 ⟨rfl, rfl⟩
  go_wp2_with fail
  refine (sto_live _ w2 s _ HQ2.out.sto 1 (by decide)).mono ?_
  rintro e w4 ⟨rfl, b4⟩
  have HB4 := hid (HB2.out.trans (b4.mono HB2.out.size))
  clear b4
  go_wp2_with fail
  go_ret
  exact ⟨rfl, HB4.out⟩
end Go.Proofs.YtdfkdgnhpdgphaaGreatDoor

/-
  What TopSkews makes of the store, as plain data.
-/
namespace Go.Proofs.YtdfkdgnhpdgphaaGreatDoor
open Go.RowKit Go.Proofs.Lig

namespace Skew
abbrev n1 : List (Ver NodV) := [⟨1, e0, false⟩]
abbrev c1 : Clk := ⟨[⟨0, 0, true⟩], 0⟩
abbrev d1 : StoD := ⟨c1, [], [], [], none, none⟩
abbrev d2 : StoD := ⟨c1, [n1], [], [], none, none⟩
abbrev d3 : StoD := ⟨c1, [n1, n1], [], [], none, none⟩
abbrev d4 : StoD := ⟨⟨[⟨0, 1, false⟩], 1⟩, [n1, n1], [], [], none, none⟩
abbrev d5 : StoD := ⟨⟨[⟨0, 1, false⟩, ⟨1, 0, true⟩], 1⟩, [n1, n1], [], [], none, none⟩
abbrev c6 : Clk := ⟨[⟨0, 1, false⟩, ⟨1, 0, true⟩, ⟨1, 0, true⟩], 1⟩
abbrev d6 : StoD := ⟨c6, [n1, n1], [], [], none, none⟩
abbrev n2 : List (Ver NodV) := [⟨1, e0, false⟩, ⟨2, e0, true⟩]
abbrev d7 : StoD := ⟨c6, [n2, n1], [], [], none, none⟩
abbrev d8 : StoD := ⟨⟨[⟨0, 1, false⟩, ⟨1, 0, true⟩, ⟨1, 0, false⟩], 1⟩, [n2, n1], [], [], none, none⟩
abbrev d9 : StoD := ⟨⟨[⟨0, 1, false⟩, ⟨1, 2, false⟩, ⟨1, 0, false⟩], 2⟩, [n2, n1], [], [], none, none⟩
abbrev n3 : List (Ver NodV) := [⟨1, e0, false⟩, ⟨3, e0, false⟩]
/-- The edge: to the other node, or to its own. -/
abbrev eg (self : Bool) : EdgV := ⟨1, if self then 1 else 2, tyE, one⟩
abbrev nsf (self : Bool) : List (List (Ver NodV)) := if self then [n3, n1] else [n3, n3]
abbrev f7 (self : Bool) : StoD := ⟨c6, nsf self, [[⟨3, eg self, false⟩]], [(1, if self then 1 else 2)], some (1, 1), some (if self then 1 else 2, 1)⟩
abbrev f8 (self : Bool) : StoD := ⟨⟨[⟨0, 1, false⟩, ⟨1, 0, false⟩, ⟨1, 0, true⟩], 1⟩, nsf self, [[⟨3, eg self, false⟩]], [(1, if self then 1 else 2)], some (1, 1), some (if self then 1 else 2, 1)⟩
abbrev f9 (self : Bool) : StoD := ⟨⟨[⟨0, 1, false⟩, ⟨1, 0, false⟩, ⟨1, 2, false⟩], 2⟩, nsf self, [[⟨3, eg self, false⟩]], [(1, if self then 1 else 2)], some (1, 1), some (if self then 1 else 2, 1)⟩

set_option maxRecDepth 100000 in
theorem pend3 : pendWrs d3 1 = [⟨false, 1, false, z0⟩, ⟨false, 2, false, z0⟩] := rfl
theorem pend8 : pendWrs d8 2 = [⟨false, 1, true, z0⟩] := rfl
theorem pendF (self : Bool) : pendWrs (f8 self) 3 = if self then [⟨false, 1, false, z0⟩, ⟨true, 1, false, eg self⟩] else [⟨false, 1, false, z0⟩, ⟨false, 2, false, z0⟩, ⟨true, 1, false, eg self⟩] := by
  cases self <;> rfl
set_option maxRecDepth 100000 in
theorem image9 : (imageWrs d9).length = 1 := rfl
theorem imageF (self : Bool) : (imageWrs (f9 self)).length = 3 := by cases self <;> rfl
theorem good_e (self : Bool) : GoodE (eg self) := by cases self <;> exact ⟨by decide, by decide, by decide, by decide, rfl, rfl⟩
set_option maxRecDepth 100000 in
theorem untouched7 : Untouched d7 3 := ⟨by decide, by simp, by simp, fun i hi => by simp at hi⟩
theorem untouchedF (self : Bool) : Untouched (f7 self) 2 := ⟨by cases self <;> decide, by cases self <;> simp [nsf], by cases self <;> simp, fun i hi => by
  obtain rfl : i = 0 := by simpa using hi
  cases self <;> exact ⟨_, _, rfl, rfl, rfl, rfl, rfl⟩⟩
end Skew
end Go.Proofs.YtdfkdgnhpdgphaaGreatDoor

/-
  TopSkews' asks, one by one.
-/
namespace Go.Proofs.YtdfkdgnhpdgphaaGreatDoor
open Go.RowKit Go.Proofs.Lig
namespace Skew
section
variable {w : World} {N D G M B s L k m : Nat}
abbrev Did (w : World) (N D G M B s L : Nat) (cs : List Value) (d : StoD) (k m : Nat) (v : Value) : Ending → World → Prop := fun e w' => e = .returned v ∧ DbQ w' N D G M 50 B s L cs d k m ∧ Below N w w' ∧ TFr comT w w'
set_option maxRecDepth 100000 in
theorem a1 (h : DbQ w N D G M 50 B s L (dbCells s L 0 0 0 0 0) d00 0 0) : Calls Tryz.prog 9 #[pt B, .int .i64 0, opVal 1 0 z0] w (Did w N D G M B s L (dbCells s L 1 0 0 0 0) d1 0 0 (ansVal 0 0)) :=
  ask_begin_q h 0 (by omega) rfl (by decide) (by decide) 1 (by decide) (dbCells s L 1 0 0 0 0) rfl rfl rfl
theorem a2 (h : DbQ w N D G M 50 B s L (dbCells s L 1 0 0 0 0) d1 0 0) : Calls Tryz.prog 9 #[pt B, .int .i64 0, opVal 4 0 z0] w (Did w N D G M B s L (dbCells s L 1 0 0 0 0) d2 0 0 (ansVal 0 1)) :=
  ask_write_q h 0 (by omega) 1 rfl (by omega) 4 0 z0 (.inl rfl) 0 1 d2 (fun W p hS hB hO => writes_node hB rfl hS hO 1 (by decide) (by decide) 1 (by decide)) _ (by rw [if_neg (by omega)]) rfl rfl
set_option maxRecDepth 100000 in
theorem a3 (h : DbQ w N D G M 50 B s L (dbCells s L 1 0 0 0 0) d2 0 0) : Calls Tryz.prog 9 #[pt B, .int .i64 0, opVal 4 0 z0] w (Did w N D G M B s L (dbCells s L 1 0 0 0 0) d3 0 0 (ansVal 0 2)) :=
  ask_write_q h 0 (by omega) 1 rfl (by omega) 4 0 z0 (.inl rfl) 0 2 d3 (fun W p hS hB hO => writes_node hB rfl hS hO 1 (by decide) (by decide) 2 (by decide)) _ (by rw [if_neg (by omega)]) rfl rfl
theorem good_node (n m : Int) (i : Int) (g : Bool) (h1 : 1 ≤ i) (hn : i ≤ n) : GoodW n m ⟨false, i, g, z0⟩ := ⟨h1, fun _ => ⟨hn, rfl⟩, fun h => by cases h⟩
set_option maxRecDepth 100000 in
theorem a4 (h : DbQ w N D G M 50 B s L (dbCells s L 1 0 0 0 0) d3 0 0) : Calls Tryz.prog 9 #[pt B, .int .i64 0, opVal 2 0 z0] w (Did w N D G M B s L (dbCells s L 0 0 0 0 1) d4 1 240 (ansVal 0 0)) :=
  ask_commit_q h 0 (by omega) 1 rfl (by omega) 0 rfl (by omega) (by omega) (by decide) (by decide) (by decide) (by decide) (by
    rw [pend3]
    intro x hx
    simp only [List.mem_cons, List.not_mem_nil, or_false] at hx
    rcases hx with rfl | rfl
    · exact good_node _ _ _ _ (by decide) (by decide)
    · exact good_node _ _ _ _ (by decide) (by decide)) (by rw [pend3]; decide) (by rw [pend3]; decide) (by rw [pend3]; simp) (by omega) (by omega) (by rw [pend3]; decide) (by omega) _ rfl rfl rfl rfl 240 (by rw [pend3]; rfl)
set_option maxRecDepth 100000 in
theorem a5 (h : DbQ w N D G M 50 B s L (dbCells s L 0 0 0 0 1) d4 k m) : Calls Tryz.prog 9 #[pt B, .int .i64 1, opVal 1 0 z0] w (Did w N D G M B s L (dbCells s L 0 2 0 0 1) d5 k m (ansVal 0 0)) :=
  ask_begin_q h 1 (by omega) rfl (by decide) (by decide) 2 (by decide) (dbCells s L 0 2 0 0 1) rfl rfl rfl
theorem a6 (h : DbQ w N D G M 50 B s L (dbCells s L 0 2 0 0 1) d5 k m) : Calls Tryz.prog 9 #[pt B, .int .i64 2, opVal 1 0 z0] w (Did w N D G M B s L (dbCells s L 0 2 3 0 1) d6 k m (ansVal 0 0)) :=
  ask_begin_q h 2 (by omega) rfl (by decide) (by decide) 3 (by decide) (dbCells s L 0 2 3 0 1) rfl rfl rfl
set_option maxRecDepth 100000 in
/-- The node is dropped. -/
theorem a7 (h : DbQ w N D G M 50 B s L (dbCells s L 0 2 3 0 1) d6 k m) : Calls Tryz.prog 9 #[pt B, .int .i64 1, opVal 6 1 z0] w (Did w N D G M B s L (dbCells s L 0 2 3 0 1) d7 k m (ansVal 0 0)) :=
  ask_write_q h 1 (by omega) 2 rfl (by omega) 6 1 z0 (.inr (.inl rfl)) 0 0 d7 (fun W p hS hB hO => (writes_drop hB rfl hS hO 2 0 n1 rfl (by decide) (by decide) (by decide) (fun a b e => by cases e) (fun a b e => by cases e) false (by decide) (fun e => by cases e) 0 rfl d7 rfl).mono (fun e w' hq => ⟨hq.1, ⟨p, hq.2.1⟩, hq.2.2.1, hq.2.2.2⟩)) _ (by rw [if_neg (by omega)]) rfl rfl
set_option maxRecDepth 100000 in
/-- .. and no edge may be added there. -/
theorem a8 (self : Bool) (h : DbQ w N D G M 50 B s L (dbCells s L 0 2 3 0 1) d7 k m) : Calls Tryz.prog 9 #[pt B, .int .i64 2, opVal 7 0 (eg self)] w (Did w N D G M B s L (dbCells s L 0 2 0 0 1) d8 k m (ansVal 6 0)) :=
  ask_write_q h 2 (by omega) 3 rfl (by omega) 7 0 (eg self) (.inr (.inr rfl)) 6 0 d8 (fun W p hS hB hO => writes_edge hB rfl hS hO 3 (eg self) (fun W => isEdge_ok _ (good_e self) W) 0 (if self then 0 else 1) rfl (by cases self <;> rfl) n2 rfl (if self then n2 else n1) (by cases self <;> rfl) (by decide) (by decide) (by cases self <;> decide) (by decide) true (by cases self <;> decide) (fun _ => untouched7) (fun e => by cases e) (fun e => by cases e) (fun e => by cases e) 6 rfl 0 rfl d8 rfl) _ (by rw [if_pos rfl]; rfl) rfl rfl
set_option maxRecDepth 100000 in
theorem a9 (h : DbQ w N D G M 50 B s L (dbCells s L 0 2 0 0 1) d8 1 240) : Calls Tryz.prog 9 #[pt B, .int .i64 1, opVal 2 0 z0] w (Did w N D G M B s L (dbCells s L 0 0 0 0 2) d9 2 380 (ansVal 0 0)) :=
  ask_commit_q h 1 (by omega) 2 rfl (by omega) 1 rfl (by omega) (by omega) (by decide) (by decide) (by decide) (by decide) (by
    rw [pend8]
    intro x hx
    simp only [List.mem_cons, List.not_mem_nil, or_false] at hx
    subst hx
    exact good_node _ _ _ _ (by decide) (by decide)) (by rw [pend8]; decide) (by rw [pend8]; decide) (by rw [pend8]; simp) (by omega) (by omega) (by rw [pend8]; decide) (by omega) _ rfl rfl rfl rfl 380 (by rw [pend8]; rfl)
set_option maxRecDepth 100000 in
theorem a10 (d : StoD) (a b c : Int) (h : DbQ w N D G M 50 B s L (dbCells s L a b 0 0 c) d k m) : Calls Tryz.prog 9 #[pt B, .int .i64 2, opVal 2 0 z0] w (Did w N D G M B s L (dbCells s L a b 0 0 c) d k m (ansVal 5 0)) :=
  ask_none_q h 2 (by omega) rfl
/-- The edge is added. -/
theorem b7 (self : Bool) (h : DbQ w N D G M 50 B s L (dbCells s L 0 2 3 0 1) d6 k m) : Calls Tryz.prog 9 #[pt B, .int .i64 2, opVal 7 0 (eg self)] w (Did w N D G M B s L (dbCells s L 0 2 3 0 1) (f7 self) k m (ansVal 0 1)) :=
  ask_write_q h 2 (by omega) 3 rfl (by omega) 7 0 (eg self) (.inr (.inr rfl)) 0 1 (f7 self) (fun W p hS hB hO => writes_edge hB rfl hS hO 3 (eg self) (fun W => isEdge_ok _ (good_e self) W) 0 (if self then 0 else 1) rfl (by cases self <;> rfl) n1 rfl n1 (by cases self <;> rfl) (by decide) (by decide) (by decide) (by decide) false (by cases self <;> decide) (fun e => by cases e) (fun _ => by cases self <;> exact ⟨⟨_, rfl, by decide, by decide, by decide⟩, ⟨_, rfl, by decide, by decide, by decide⟩, trivial⟩) (fun _ => rfl) (fun _ => rfl) 0 rfl 1 rfl (f7 self) (by cases self <;> rfl)) _ (by rw [if_neg (by omega)]) rfl rfl
set_option maxRecDepth 100000 in
/-- .. and the node may not be dropped. -/
theorem b8 (self : Bool) (h : DbQ w N D G M 50 B s L (dbCells s L 0 2 3 0 1) (f7 self) k m) : Calls Tryz.prog 9 #[pt B, .int .i64 1, opVal 6 1 z0] w (Did w N D G M B s L (dbCells s L 0 0 3 0 1) (f8 self) k m (ansVal 6 0)) :=
  ask_write_q h 1 (by omega) 2 rfl (by omega) 6 1 z0 (.inr (.inl rfl)) 6 0 (f8 self) (fun W p hS hB hO => (writes_drop hB rfl hS hO 2 0 n3 (by cases self <;> rfl) (by cases self <;> decide) (by cases self <;> decide) (by decide) (fun a b e _ => by cases e; exact ⟨by decide, _, rfl, by cases self <;> rfl⟩) (fun a b e _ => by cases e; exact ⟨by decide, _, rfl, by cases self <;> rfl⟩) true (by cases self <;> decide) (fun _ => untouchedF self) 6 rfl (f8 self) rfl).mono (fun e w' hq => ⟨hq.1, ⟨p, hq.2.1⟩, hq.2.2.1, hq.2.2.2⟩)) _ (by rw [if_pos rfl]; rfl) rfl rfl
set_option maxRecDepth 100000 in
theorem b9 (d : StoD) (a b c : Int) (h : DbQ w N D G M 50 B s L (dbCells s L a 0 b 0 c) d k m) : Calls Tryz.prog 9 #[pt B, .int .i64 1, opVal 2 0 z0] w (Did w N D G M B s L (dbCells s L a 0 b 0 c) d k m (ansVal 5 0)) :=
  ask_none_q h 1 (by omega) rfl
theorem b10 (self : Bool) (h : DbQ w N D G M 50 B s L (dbCells s L 0 0 3 0 1) (f8 self) 1 240) : Calls Tryz.prog 9 #[pt B, .int .i64 2, opVal 2 0 z0] w fun e w' => ∃ m', Did w N D G M B s L (dbCells s L 0 0 0 0 2) (f9 self) 2 m' (ansVal 0 0) e w' := by
  have hp := pendF self
  refine (ask_commit_q h 2 (by omega) 3 rfl (by omega) 1 rfl (by omega) (by omega) (by cases self <;> decide) (by cases self <;> decide) (by cases self <;> decide) (by cases self <;> decide) (by
    rw [hp]
    intro x hx
    cases self
    all_goals
      simp only [Bool.false_eq_true, if_true, if_false, List.mem_cons, List.not_mem_nil, or_false] at hx
    · rcases hx with rfl | rfl | rfl
      · exact good_node _ _ _ _ (by decide) (by decide)
      · exact good_node _ _ _ _ (by decide) (by decide)
      · exact ⟨by decide, (fun e => by cases e), fun _ => ⟨by decide, rfl, good_e false⟩⟩
    · rcases hx with rfl | rfl
      · exact good_node _ _ _ _ (by decide) (by decide)
      · exact ⟨by decide, (fun e => by cases e), fun _ => ⟨by decide, rfl, good_e true⟩⟩) (by rw [hp]; cases self <;> decide) (by rw [hp]; cases self <;> decide) (by rw [hp]; cases self <;> simp) (by omega) (by omega) (by rw [hp]; cases self <;> decide) (by omega) _ rfl rfl rfl rfl _ rfl).mono ?_
  intro e w' hq
  exact ⟨_, hq⟩
end
end Skew
end Go.Proofs.YtdfkdgnhpdgphaaGreatDoor

/-
  The walk of TopSkews, four times. (Printed by mk/tope.py.)
-/
namespace Go.Proofs.YtdfkdgnhpdgphaaGreatDoor
open Go.RowKit Go.Proofs.Lig
namespace Skew
attribute [local go_sem] run_store_float
set_option maxRecDepth 100000 in
theorem size_edg : (Tryz.prog.info? 38).map (·.size) = some 4 := by kernel_rfl
/-- The memory that TopSkews makes of its own: the edge, two answers. -/
structure EB (w w' : World) (dst : Int) : Prop where
  edge : Blk w' w.heap.size 38 [.int .i64 1, .int .i64 dst, .string tyE, .float .f64 one]
  a : Blk w' (w.heap.size + 1) 41 ansZ
  b : Blk w' (w.heap.size + 2) 41 ansZ
  bel : Below w.heap.size w w'
abbrev wEof (w : World) (dst : Int) : World := ((w.alloc (.cells #[.int .i64 1, .int .i64 dst, .string tyE, .float .f64 one] 38)).alloc (.cells ansZ.toArray 41)).alloc (.cells ansZ.toArray 41)
set_option maxRecDepth 100000 in
theorem eb (w : World) (dst : Int) : EB w (wEof w dst) dst := by
  have b1 := below_alloc w (.cells #[.int .i64 1, .int .i64 dst, .string tyE, .float .f64 one] 38)
  have k1 := Blk.new w 38 [.int .i64 1, .int .i64 dst, .string tyE, .float .f64 one]
  have k2 := Blk.new (w.alloc (.cells #[.int .i64 1, .int .i64 dst, .string tyE, .float .f64 one] 38)) 41 ansZ
  have k3 := Blk.new ((w.alloc (.cells #[.int .i64 1, .int .i64 dst, .string tyE, .float .f64 one] 38)).alloc (.cells ansZ.toArray 41)) 41 ansZ
  simp only [World.size_alloc] at k2 k3
  exact ⟨(k1.alloc _).alloc _, k2.alloc _, k3, (b1.alloc (by simp) _).alloc (by simp; omega) _⟩
/-- .. and of two more answers. -/
structure AB (w w' : World) : Prop where
  c : Blk w' w.heap.size 41 ansZ
  d : Blk w' (w.heap.size + 1) 41 ansZ
  bel : Below w.heap.size w w'
abbrev wAof (w : World) : World := (w.alloc (.cells ansZ.toArray 41)).alloc (.cells ansZ.toArray 41)
set_option maxRecDepth 100000 in
theorem ab (w : World) : AB w (wAof w) := by
  have b1 := below_alloc w (.cells ansZ.toArray 41)
  have k1 := Blk.new w 41 ansZ
  have k2 := Blk.new (w.alloc (.cells ansZ.toArray 41)) 41 ansZ
  simp only [World.size_alloc] at k2
  exact ⟨k1.alloc _, k2, b1.alloc (by simp) _⟩
set_option maxRecDepth 100000 in
set_option maxHeartbeats 8000000 in
theorem walk_tt (w : World) : Calls Tryz.prog 5 #[.bool true, .bool true] w fun e w' => e = .returned (.bool true) ∧ Below w.heap.size w w' := by
  go_enter Tryz.func5, Tryz.ntmps5
  go_wp2_with fail
  refine (top_begin w 50 (by omega) (by omega)).mono ?_
  rintro e w0 ⟨B, s, L, D, G, M, y, rfl, Q, b⟩
  have HC := hid (a1 Q)
  have HB0 := hid b
  clear Q b
  go_wp2_with fail
  refine HC.out.mono ?_
  rintro e w1 ⟨rfl, Q, b, _⟩
  clear HC
  have HC := hid (a2 Q)
  have HB1 := hid (HB0.out.trans b)
  clear Q b
  go_wp2_with fail
  refine HC.out.mono ?_
  rintro e w2 ⟨rfl, Q, b, _⟩
  clear HC
  have HC := hid (a3 Q)
  have HB2 := hid (HB1.out.trans b)
  clear Q b
  go_wp2_with fail
  refine HC.out.mono ?_
  rintro e w3 ⟨rfl, Q, b, _⟩
  clear HC
  have HC := hid (a4 Q)
  have HB3 := hid (HB2.out.trans b)
  clear Q b
  go_wp2_with fail
  refine HC.out.mono ?_
  rintro e w4 ⟨rfl, Q, b, _⟩
  clear HC
  have HC := hid (a5 Q)
  have HB4 := hid (HB3.out.trans b)
  clear Q b
  go_wp2_with fail
  refine HC.out.mono ?_
  rintro e w5 ⟨rfl, Q, b, _⟩
  clear HC
  have HC := hid (a6 Q)
  have HB5 := hid (HB4.out.trans b)
  clear Q b
  go_wp2_with fail
  refine HC.out.mono ?_
  rintro e w6 ⟨rfl, Q, b, _⟩
  clear HC
  have HQ6 := hid Q
  have HB6 := hid (HB5.out.trans b)
  clear Q b
  go_wp2_with fail
  have EX := hid (eb w6 1)
  have HB7 := hid (HB6.out.trans (EX.out.bel.mono HB6.out.size))
  have HN : Hid (w.heap.size ≤ w6.heap.size) := HB6.out.size
  have HC8 := hid (a7 (HQ6.out.below EX.out.bel))
  refine HC8.out.mono ?_
  rintro e w8 ⟨rfl, Q, b, T⟩
  have HQ8 := hid Q
  have KE8 := hid (EX.out.edge.tfr T (by decide))
  have K8_1 := hid (EX.out.a.tfr T (by decide))
  have K8_2 := hid (EX.out.b.tfr T (by decide))
  have HB8 := hid (HB7.out.trans b)
  clear Q b T HC8
  go_wp2_with (first
    | (refine wpList_store_blk rfl 41 _ _ rfl (w6.heap.size + 1) 41 ansZ (ansCells 0 0) K8_1.out rfl rfl rfl size_ans (ans_all _ _) ?_
       intro w9 k f
       have K9_1 := hid k
       have K9_2 := hid (K8_2.out.fr f (by simp))
       have KE9 := hid (KE8.out.fr f (by simp))
       have HQ9 := hid (HQ8.out.tfr (TFr.set_all K8_1.out f) (by decide))
       have HB9 := hid (HB8.out.trans (f.below HB8.out.size (fun q hq => by
         obtain rfl : q = w6.heap.size + 1 := by simpa using hq
         exact Nat.le_trans HN.out (by omega))))
       clear k f)
    | (refine wpList_load_blk rfl 38 _ rfl w6.heap.size 38 [.int .i64 1, .int .i64 1, .string tyE, .float .f64 one] _ KE9.out rfl Tryz.underlying38 rfl size_edg ?_))
  have HC10 := hid (a8 true HQ9.out)
  refine HC10.out.mono ?_
  rintro e w10 ⟨rfl, Q, b, T⟩
  have HQ10 := hid Q
  have KE10 := hid (KE9.out.tfr T (by decide))
  have K10_2 := hid (K9_2.out.tfr T (by decide))
  have K10_1 := hid (K9_1.out.tfr T (by decide))
  have HB10 := hid (HB9.out.trans b)
  clear Q b T HC10
  go_wp2_with (first
    | (refine wpList_store_blk rfl 41 _ _ rfl (w6.heap.size + 2) 41 ansZ (ansCells 6 0) K10_2.out rfl rfl rfl size_ans (ans_all _ _) ?_
       intro w11 k f
       have K11_2 := hid k
       have K11_1 := hid (K10_1.out.fr f (by simp))
       have KE11 := hid (KE10.out.fr f (by simp))
       have HQ11 := hid (HQ10.out.tfr (TFr.set_all K10_2.out f) (by decide))
       have HB11 := hid (HB10.out.trans (f.below HB10.out.size (fun q hq => by
         obtain rfl : q = w6.heap.size + 2 := by simpa using hq
         exact Nat.le_trans HN.out (by omega))))
       clear k f)
    | (refine wpList_load_blk rfl 38 _ rfl w6.heap.size 38 [.int .i64 1, .int .i64 1, .string tyE, .float .f64 one] _ KE11.out rfl Tryz.underlying38 rfl size_edg ?_))
  have HC12 := hid (a9 HQ11.out)
  refine HC12.out.mono ?_
  rintro e w12 ⟨rfl, Q, b, T⟩
  have HQ12 := hid Q
  have K12_1 := hid (K11_1.out.tfr T (by decide))
  have K12_2 := hid (K11_2.out.tfr T (by decide))
  have HB12 := hid (HB11.out.trans b)
  clear Q b T HC12
  go_wp2_with fail
  have HC13 := hid (a10 d9 0 0 2 HQ12.out)
  refine HC13.out.mono ?_
  rintro e w13 ⟨rfl, Q, b, T⟩
  have HQ13 := hid Q
  have K13_1 := hid (K12_1.out.tfr T (by decide))
  have K13_2 := hid (K12_2.out.tfr T (by decide))
  have HB13 := hid (HB12.out.trans b)
  clear Q b T HC13
  have AX := hid (ab w13)
  have HQ14 := hid (HQ13.out.below AX.out.bel)
  have K14_1 := hid (K13_1.out.below AX.out.bel K13_1.out.lt)
  have K14_2 := hid (K13_2.out.below AX.out.bel K13_2.out.lt)
  have HB14 := hid (HB13.out.trans (AX.out.bel.mono HB13.out.size))
  have HM : Hid (w.heap.size ≤ w13.heap.size) := HB13.out.size
  have HNE : Hid (w6.heap.size + 1 < w13.heap.size ∧ w6.heap.size + 2 < w13.heap.size) := ⟨K13_1.out.lt, K13_2.out.lt⟩
  go_wp2_with (first
    | (refine wpList_store_blk rfl 41 _ _ rfl (w13.heap.size) 41 ansZ (ansCells 0 0) AX.out.c rfl rfl rfl size_ans (ans_all _ _) ?_
       intro w15 k f
       have HQ15 := hid (HQ14.out.tfr (TFr.set_all AX.out.c f) (by decide))
       have K15_1 := hid (K14_1.out.fr f (by have := HNE.out; simp; omega))
       have K15_2 := hid (K14_2.out.fr f (by have := HNE.out; simp; omega))
       have KC15 := hid k
       have KD15 := hid (AX.out.d.fr f (by simp))
       have HB15 := hid (HB14.out.trans (f.below HB14.out.size (fun q hq => by
         obtain rfl : q = w13.heap.size := by simpa using hq
         exact Nat.le_trans HM.out (by omega))))
       clear k f)
    | (refine wpList_store_blk rfl 41 _ _ rfl (w13.heap.size + 1) 41 ansZ (ansCells 5 0) KD15.out rfl rfl rfl size_ans (ans_all _ _) ?_
       intro w16 k f
       have HQ16 := hid (HQ15.out.tfr (TFr.set_all KD15.out f) (by decide))
       have K16_1 := hid (K15_1.out.fr f (by have := HNE.out; simp; omega))
       have K16_2 := hid (K15_2.out.fr f (by have := HNE.out; simp; omega))
       have KC16 := hid (KC15.out.fr f (by simp))
       have KD16 := hid k
       have HB16 := hid (HB15.out.trans (f.below HB15.out.size (fun q hq => by
         obtain rfl : q = w13.heap.size + 1 := by simpa using hq
         exact Nat.le_trans HM.out (by omega))))
       clear k f))
  refine (db_store w16 B s L 0 0 0 0 2 HQ16.out.db).mono ?_
  rintro e w17 ⟨rfl, rfl⟩
  go_wp2_with fail
  refine (top_image _ w16 s d9 HQ16.out.sto (by decide) (by decide) 1 image9).mono ?_
  rintro e w18 ⟨A, cap, rfl, b⟩
  have x1 : w18.cell? ⟨w6.heap.size + 1, 0, none⟩ = some (.int .i64 0) := (K16_1.out.below b K16_1.out.lt).cell 0
  have x2 : w18.cell? ⟨w6.heap.size + 2, 0, none⟩ = some (.int .i64 6) := (K16_2.out.below b K16_2.out.lt).cell 0
  have x3 : w18.cell? ⟨w13.heap.size, 0, none⟩ = some (.int .i64 0) := (KC16.out.below b KC16.out.lt).cell 0
  have x4 : w18.cell? ⟨w13.heap.size + 1, 0, none⟩ = some (.int .i64 5) := (KD16.out.below b KD16.out.lt).cell 0
  have HB18 := hid (HB16.out.trans (b.mono HB16.out.size))
  clear b
  go_wp2_with fail
  refine (top_known w18).mono ?_
  rintro e w19 ⟨rfl, b⟩
  have HB19 := hid (HB18.out.trans (b.mono HB18.out.size))
  clear b x1 x2 x3 x4
  go_wp2_with fail
  go_ret
  exact ⟨rfl, HB19.out⟩
set_option maxRecDepth 100000 in
set_option maxHeartbeats 8000000 in
theorem walk_tf (w : World) : Calls Tryz.prog 5 #[.bool true, .bool false] w fun e w' => e = .returned (.bool true) ∧ Below w.heap.size w w' := by
  go_enter Tryz.func5, Tryz.ntmps5
  go_wp2_with fail
  refine (top_begin w 50 (by omega) (by omega)).mono ?_
  rintro e w0 ⟨B, s, L, D, G, M, y, rfl, Q, b⟩
  have HC := hid (a1 Q)
  have HB0 := hid b
  clear Q b
  go_wp2_with fail
  refine HC.out.mono ?_
  rintro e w1 ⟨rfl, Q, b, _⟩
  clear HC
  have HC := hid (a2 Q)
  have HB1 := hid (HB0.out.trans b)
  clear Q b
  go_wp2_with fail
  refine HC.out.mono ?_
  rintro e w2 ⟨rfl, Q, b, _⟩
  clear HC
  have HC := hid (a3 Q)
  have HB2 := hid (HB1.out.trans b)
  clear Q b
  go_wp2_with fail
  refine HC.out.mono ?_
  rintro e w3 ⟨rfl, Q, b, _⟩
  clear HC
  have HC := hid (a4 Q)
  have HB3 := hid (HB2.out.trans b)
  clear Q b
  go_wp2_with fail
  refine HC.out.mono ?_
  rintro e w4 ⟨rfl, Q, b, _⟩
  clear HC
  have HC := hid (a5 Q)
  have HB4 := hid (HB3.out.trans b)
  clear Q b
  go_wp2_with fail
  refine HC.out.mono ?_
  rintro e w5 ⟨rfl, Q, b, _⟩
  clear HC
  have HC := hid (a6 Q)
  have HB5 := hid (HB4.out.trans b)
  clear Q b
  go_wp2_with fail
  refine HC.out.mono ?_
  rintro e w6 ⟨rfl, Q, b, _⟩
  clear HC
  have HQ6 := hid Q
  have HB6 := hid (HB5.out.trans b)
  clear Q b
  go_wp2_with fail
  have EX := hid (eb w6 2)
  have HB7 := hid (HB6.out.trans (EX.out.bel.mono HB6.out.size))
  have HN : Hid (w.heap.size ≤ w6.heap.size) := HB6.out.size
  have HC8 := hid (a7 (HQ6.out.below EX.out.bel))
  refine HC8.out.mono ?_
  rintro e w8 ⟨rfl, Q, b, T⟩
  have HQ8 := hid Q
  have KE8 := hid (EX.out.edge.tfr T (by decide))
  have K8_1 := hid (EX.out.a.tfr T (by decide))
  have K8_2 := hid (EX.out.b.tfr T (by decide))
  have HB8 := hid (HB7.out.trans b)
  clear Q b T HC8
  go_wp2_with (first
    | (refine wpList_store_blk rfl 41 _ _ rfl (w6.heap.size + 1) 41 ansZ (ansCells 0 0) K8_1.out rfl rfl rfl size_ans (ans_all _ _) ?_
       intro w9 k f
       have K9_1 := hid k
       have K9_2 := hid (K8_2.out.fr f (by simp))
       have KE9 := hid (KE8.out.fr f (by simp))
       have HQ9 := hid (HQ8.out.tfr (TFr.set_all K8_1.out f) (by decide))
       have HB9 := hid (HB8.out.trans (f.below HB8.out.size (fun q hq => by
         obtain rfl : q = w6.heap.size + 1 := by simpa using hq
         exact Nat.le_trans HN.out (by omega))))
       clear k f)
    | (refine wpList_load_blk rfl 38 _ rfl w6.heap.size 38 [.int .i64 1, .int .i64 2, .string tyE, .float .f64 one] _ KE9.out rfl Tryz.underlying38 rfl size_edg ?_))
  have HC10 := hid (a8 false HQ9.out)
  refine HC10.out.mono ?_
  rintro e w10 ⟨rfl, Q, b, T⟩
  have HQ10 := hid Q
  have KE10 := hid (KE9.out.tfr T (by decide))
  have K10_2 := hid (K9_2.out.tfr T (by decide))
  have K10_1 := hid (K9_1.out.tfr T (by decide))
  have HB10 := hid (HB9.out.trans b)
  clear Q b T HC10
  go_wp2_with (first
    | (refine wpList_store_blk rfl 41 _ _ rfl (w6.heap.size + 2) 41 ansZ (ansCells 6 0) K10_2.out rfl rfl rfl size_ans (ans_all _ _) ?_
       intro w11 k f
       have K11_2 := hid k
       have K11_1 := hid (K10_1.out.fr f (by simp))
       have KE11 := hid (KE10.out.fr f (by simp))
       have HQ11 := hid (HQ10.out.tfr (TFr.set_all K10_2.out f) (by decide))
       have HB11 := hid (HB10.out.trans (f.below HB10.out.size (fun q hq => by
         obtain rfl : q = w6.heap.size + 2 := by simpa using hq
         exact Nat.le_trans HN.out (by omega))))
       clear k f)
    | (refine wpList_load_blk rfl 38 _ rfl w6.heap.size 38 [.int .i64 1, .int .i64 2, .string tyE, .float .f64 one] _ KE11.out rfl Tryz.underlying38 rfl size_edg ?_))
  have HC12 := hid (a9 HQ11.out)
  refine HC12.out.mono ?_
  rintro e w12 ⟨rfl, Q, b, T⟩
  have HQ12 := hid Q
  have K12_1 := hid (K11_1.out.tfr T (by decide))
  have K12_2 := hid (K11_2.out.tfr T (by decide))
  have HB12 := hid (HB11.out.trans b)
  clear Q b T HC12
  go_wp2_with fail
  have HC13 := hid (a10 d9 0 0 2 HQ12.out)
  refine HC13.out.mono ?_
  rintro e w13 ⟨rfl, Q, b, T⟩
  have HQ13 := hid Q
  have K13_1 := hid (K12_1.out.tfr T (by decide))
  have K13_2 := hid (K12_2.out.tfr T (by decide))
  have HB13 := hid (HB12.out.trans b)
  clear Q b T HC13
  have AX := hid (ab w13)
  have HQ14 := hid (HQ13.out.below AX.out.bel)
  have K14_1 := hid (K13_1.out.below AX.out.bel K13_1.out.lt)
  have K14_2 := hid (K13_2.out.below AX.out.bel K13_2.out.lt)
  have HB14 := hid (HB13.out.trans (AX.out.bel.mono HB13.out.size))
  have HM : Hid (w.heap.size ≤ w13.heap.size) := HB13.out.size
  have HNE : Hid (w6.heap.size + 1 < w13.heap.size ∧ w6.heap.size + 2 < w13.heap.size) := ⟨K13_1.out.lt, K13_2.out.lt⟩
  go_wp2_with (first
    | (refine wpList_store_blk rfl 41 _ _ rfl (w13.heap.size) 41 ansZ (ansCells 0 0) AX.out.c rfl rfl rfl size_ans (ans_all _ _) ?_
       intro w15 k f
       have HQ15 := hid (HQ14.out.tfr (TFr.set_all AX.out.c f) (by decide))
       have K15_1 := hid (K14_1.out.fr f (by have := HNE.out; simp; omega))
       have K15_2 := hid (K14_2.out.fr f (by have := HNE.out; simp; omega))
       have KC15 := hid k
       have KD15 := hid (AX.out.d.fr f (by simp))
       have HB15 := hid (HB14.out.trans (f.below HB14.out.size (fun q hq => by
         obtain rfl : q = w13.heap.size := by simpa using hq
         exact Nat.le_trans HM.out (by omega))))
       clear k f)
    | (refine wpList_store_blk rfl 41 _ _ rfl (w13.heap.size + 1) 41 ansZ (ansCells 5 0) KD15.out rfl rfl rfl size_ans (ans_all _ _) ?_
       intro w16 k f
       have HQ16 := hid (HQ15.out.tfr (TFr.set_all KD15.out f) (by decide))
       have K16_1 := hid (K15_1.out.fr f (by have := HNE.out; simp; omega))
       have K16_2 := hid (K15_2.out.fr f (by have := HNE.out; simp; omega))
       have KC16 := hid (KC15.out.fr f (by simp))
       have KD16 := hid k
       have HB16 := hid (HB15.out.trans (f.below HB15.out.size (fun q hq => by
         obtain rfl : q = w13.heap.size + 1 := by simpa using hq
         exact Nat.le_trans HM.out (by omega))))
       clear k f))
  refine (db_store w16 B s L 0 0 0 0 2 HQ16.out.db).mono ?_
  rintro e w17 ⟨rfl, rfl⟩
  go_wp2_with fail
  refine (top_image _ w16 s d9 HQ16.out.sto (by decide) (by decide) 1 image9).mono ?_
  rintro e w18 ⟨A, cap, rfl, b⟩
  have x1 : w18.cell? ⟨w6.heap.size + 1, 0, none⟩ = some (.int .i64 0) := (K16_1.out.below b K16_1.out.lt).cell 0
  have x2 : w18.cell? ⟨w6.heap.size + 2, 0, none⟩ = some (.int .i64 6) := (K16_2.out.below b K16_2.out.lt).cell 0
  have x3 : w18.cell? ⟨w13.heap.size, 0, none⟩ = some (.int .i64 0) := (KC16.out.below b KC16.out.lt).cell 0
  have x4 : w18.cell? ⟨w13.heap.size + 1, 0, none⟩ = some (.int .i64 5) := (KD16.out.below b KD16.out.lt).cell 0
  have HB18 := hid (HB16.out.trans (b.mono HB16.out.size))
  clear b
  go_wp2_with fail
  refine (top_known w18).mono ?_
  rintro e w19 ⟨rfl, b⟩
  have HB19 := hid (HB18.out.trans (b.mono HB18.out.size))
  clear b x1 x2 x3 x4
  go_wp2_with fail
  go_ret
  exact ⟨rfl, HB19.out⟩
set_option maxRecDepth 100000 in
set_option maxHeartbeats 8000000 in
theorem walk_ft (w : World) : Calls Tryz.prog 5 #[.bool false, .bool true] w fun e w' => e = .returned (.bool true) ∧ Below w.heap.size w w' := by
  go_enter Tryz.func5, Tryz.ntmps5
  go_wp2_with fail
  refine (top_begin w 50 (by omega) (by omega)).mono ?_
  rintro e w0 ⟨B, s, L, D, G, M, y, rfl, Q, b⟩
  have HC := hid (a1 Q)
  have HB0 := hid b
  clear Q b
  go_wp2_with fail
  refine HC.out.mono ?_
  rintro e w1 ⟨rfl, Q, b, _⟩
  clear HC
  have HC := hid (a2 Q)
  have HB1 := hid (HB0.out.trans b)
  clear Q b
  go_wp2_with fail
  refine HC.out.mono ?_
  rintro e w2 ⟨rfl, Q, b, _⟩
  clear HC
  have HC := hid (a3 Q)
  have HB2 := hid (HB1.out.trans b)
  clear Q b
  go_wp2_with fail
  refine HC.out.mono ?_
  rintro e w3 ⟨rfl, Q, b, _⟩
  clear HC
  have HC := hid (a4 Q)
  have HB3 := hid (HB2.out.trans b)
  clear Q b
  go_wp2_with fail
  refine HC.out.mono ?_
  rintro e w4 ⟨rfl, Q, b, _⟩
  clear HC
  have HC := hid (a5 Q)
  have HB4 := hid (HB3.out.trans b)
  clear Q b
  go_wp2_with fail
  refine HC.out.mono ?_
  rintro e w5 ⟨rfl, Q, b, _⟩
  clear HC
  have HC := hid (a6 Q)
  have HB5 := hid (HB4.out.trans b)
  clear Q b
  go_wp2_with fail
  refine HC.out.mono ?_
  rintro e w6 ⟨rfl, Q, b, _⟩
  clear HC
  have HQ6 := hid Q
  have HB6 := hid (HB5.out.trans b)
  clear Q b
  have EX := hid (eb w6 1)
  have HB7 := hid (HB6.out.trans (EX.out.bel.mono HB6.out.size))
  have HN : Hid (w.heap.size ≤ w6.heap.size) := HB6.out.size
  go_wp2_with (first
    | (refine wpList_load_blk rfl 38 _ rfl w6.heap.size 38 [.int .i64 1, .int .i64 1, .string tyE, .float .f64 one] _ EX.out.edge rfl Tryz.underlying38 rfl size_edg ?_))
  have HC8 := hid (b7 true (HQ6.out.below EX.out.bel))
  refine HC8.out.mono ?_
  rintro e w8 ⟨rfl, Q, b, T⟩
  have HQ8 := hid Q
  have KE8 := hid (EX.out.edge.tfr T (by decide))
  have K8_2 := hid (EX.out.b.tfr T (by decide))
  have K8_1 := hid (EX.out.a.tfr T (by decide))
  have HB8 := hid (HB7.out.trans b)
  clear Q b T HC8
  go_wp2_with (first
    | (refine wpList_store_blk rfl 41 _ _ rfl (w6.heap.size + 2) 41 ansZ (ansCells 0 1) K8_2.out rfl rfl rfl size_ans (ans_all _ _) ?_
       intro w9 k f
       have K9_2 := hid k
       have K9_1 := hid (K8_1.out.fr f (by simp))
       have KE9 := hid (KE8.out.fr f (by simp))
       have HQ9 := hid (HQ8.out.tfr (TFr.set_all K8_2.out f) (by decide))
       have HB9 := hid (HB8.out.trans (f.below HB8.out.size (fun q hq => by
         obtain rfl : q = w6.heap.size + 2 := by simpa using hq
         exact Nat.le_trans HN.out (by omega))))
       clear k f)
    | (refine wpList_load_blk rfl 38 _ rfl w6.heap.size 38 [.int .i64 1, .int .i64 1, .string tyE, .float .f64 one] _ KE9.out rfl Tryz.underlying38 rfl size_edg ?_))
  have HC10 := hid (b8 true HQ9.out)
  refine HC10.out.mono ?_
  rintro e w10 ⟨rfl, Q, b, T⟩
  have HQ10 := hid Q
  have KE10 := hid (KE9.out.tfr T (by decide))
  have K10_1 := hid (K9_1.out.tfr T (by decide))
  have K10_2 := hid (K9_2.out.tfr T (by decide))
  have HB10 := hid (HB9.out.trans b)
  clear Q b T HC10
  go_wp2_with (first
    | (refine wpList_store_blk rfl 41 _ _ rfl (w6.heap.size + 1) 41 ansZ (ansCells 6 0) K10_1.out rfl rfl rfl size_ans (ans_all _ _) ?_
       intro w11 k f
       have K11_1 := hid k
       have K11_2 := hid (K10_2.out.fr f (by simp))
       have KE11 := hid (KE10.out.fr f (by simp))
       have HQ11 := hid (HQ10.out.tfr (TFr.set_all K10_1.out f) (by decide))
       have HB11 := hid (HB10.out.trans (f.below HB10.out.size (fun q hq => by
         obtain rfl : q = w6.heap.size + 1 := by simpa using hq
         exact Nat.le_trans HN.out (by omega))))
       clear k f)
    | (refine wpList_load_blk rfl 38 _ rfl w6.heap.size 38 [.int .i64 1, .int .i64 1, .string tyE, .float .f64 one] _ KE11.out rfl Tryz.underlying38 rfl size_edg ?_))
  have HC12 := hid (b9 (f8 true) 0 3 1 HQ11.out)
  refine HC12.out.mono ?_
  rintro e w12 ⟨rfl, Q, b, T⟩
  have HQ12 := hid Q
  have K12_1 := hid (K11_1.out.tfr T (by decide))
  have K12_2 := hid (K11_2.out.tfr T (by decide))
  have HB12 := hid (HB11.out.trans b)
  clear Q b T HC12
  go_wp2_with fail
  have HC13 := hid (b10 true HQ12.out)
  refine HC13.out.mono ?_
  rintro e w13 ⟨m', rfl, Q, b, T⟩
  have HQ13 := hid Q
  have K13_1 := hid (K12_1.out.tfr T (by decide))
  have K13_2 := hid (K12_2.out.tfr T (by decide))
  have HB13 := hid (HB12.out.trans b)
  clear Q b T HC13
  have AX := hid (ab w13)
  have HQ14 := hid (HQ13.out.below AX.out.bel)
  have K14_1 := hid (K13_1.out.below AX.out.bel K13_1.out.lt)
  have K14_2 := hid (K13_2.out.below AX.out.bel K13_2.out.lt)
  have HB14 := hid (HB13.out.trans (AX.out.bel.mono HB13.out.size))
  have HM : Hid (w.heap.size ≤ w13.heap.size) := HB13.out.size
  have HNE : Hid (w6.heap.size + 1 < w13.heap.size ∧ w6.heap.size + 2 < w13.heap.size) := ⟨K13_1.out.lt, K13_2.out.lt⟩
  go_wp2_with (first
    | (refine wpList_store_blk rfl 41 _ _ rfl (w13.heap.size) 41 ansZ (ansCells 5 0) AX.out.c rfl rfl rfl size_ans (ans_all _ _) ?_
       intro w15 k f
       have HQ15 := hid (HQ14.out.tfr (TFr.set_all AX.out.c f) (by decide))
       have K15_1 := hid (K14_1.out.fr f (by have := HNE.out; simp; omega))
       have K15_2 := hid (K14_2.out.fr f (by have := HNE.out; simp; omega))
       have KC15 := hid k
       have KD15 := hid (AX.out.d.fr f (by simp))
       have HB15 := hid (HB14.out.trans (f.below HB14.out.size (fun q hq => by
         obtain rfl : q = w13.heap.size := by simpa using hq
         exact Nat.le_trans HM.out (by omega))))
       clear k f)
    | (refine wpList_store_blk rfl 41 _ _ rfl (w13.heap.size + 1) 41 ansZ (ansCells 0 0) KD15.out rfl rfl rfl size_ans (ans_all _ _) ?_
       intro w16 k f
       have HQ16 := hid (HQ15.out.tfr (TFr.set_all KD15.out f) (by decide))
       have K16_1 := hid (K15_1.out.fr f (by have := HNE.out; simp; omega))
       have K16_2 := hid (K15_2.out.fr f (by have := HNE.out; simp; omega))
       have KC16 := hid (KC15.out.fr f (by simp))
       have KD16 := hid k
       have HB16 := hid (HB15.out.trans (f.below HB15.out.size (fun q hq => by
         obtain rfl : q = w13.heap.size + 1 := by simpa using hq
         exact Nat.le_trans HM.out (by omega))))
       clear k f))
  refine (db_store w16 B s L 0 0 0 0 2 HQ16.out.db).mono ?_
  rintro e w17 ⟨rfl, rfl⟩
  go_wp2_with fail
  refine (top_image _ w16 s (f9 true) HQ16.out.sto (by decide) (by decide) 3 (imageF true)).mono ?_
  rintro e w18 ⟨A, cap, rfl, b⟩
  have x1 : w18.cell? ⟨w6.heap.size + 1, 0, none⟩ = some (.int .i64 6) := (K16_1.out.below b K16_1.out.lt).cell 0
  have x2 : w18.cell? ⟨w6.heap.size + 2, 0, none⟩ = some (.int .i64 0) := (K16_2.out.below b K16_2.out.lt).cell 0
  have x3 : w18.cell? ⟨w13.heap.size, 0, none⟩ = some (.int .i64 5) := (KC16.out.below b KC16.out.lt).cell 0
  have x4 : w18.cell? ⟨w13.heap.size + 1, 0, none⟩ = some (.int .i64 0) := (KD16.out.below b KD16.out.lt).cell 0
  have HB18 := hid (HB16.out.trans (b.mono HB16.out.size))
  clear b
  go_wp2_with fail
  refine (top_known w18).mono ?_
  rintro e w19 ⟨rfl, b⟩
  have HB19 := hid (HB18.out.trans (b.mono HB18.out.size))
  clear b x1 x2 x3 x4
  go_wp2_with fail
  go_ret
  exact ⟨rfl, HB19.out⟩
set_option maxRecDepth 100000 in
set_option maxHeartbeats 8000000 in
theorem walk_ff (w : World) : Calls Tryz.prog 5 #[.bool false, .bool false] w fun e w' => e = .returned (.bool true) ∧ Below w.heap.size w w' := by
  go_enter Tryz.func5, Tryz.ntmps5
  go_wp2_with fail
  refine (top_begin w 50 (by omega) (by omega)).mono ?_
  rintro e w0 ⟨B, s, L, D, G, M, y, rfl, Q, b⟩
  have HC := hid (a1 Q)
  have HB0 := hid b
  clear Q b
  go_wp2_with fail
  refine HC.out.mono ?_
  rintro e w1 ⟨rfl, Q, b, _⟩
  clear HC
  have HC := hid (a2 Q)
  have HB1 := hid (HB0.out.trans b)
  clear Q b
  go_wp2_with fail
  refine HC.out.mono ?_
  rintro e w2 ⟨rfl, Q, b, _⟩
  clear HC
  have HC := hid (a3 Q)
  have HB2 := hid (HB1.out.trans b)
  clear Q b
  go_wp2_with fail
  refine HC.out.mono ?_
  rintro e w3 ⟨rfl, Q, b, _⟩
  clear HC
  have HC := hid (a4 Q)
  have HB3 := hid (HB2.out.trans b)
  clear Q b
  go_wp2_with fail
  refine HC.out.mono ?_
  rintro e w4 ⟨rfl, Q, b, _⟩
  clear HC
  have HC := hid (a5 Q)
  have HB4 := hid (HB3.out.trans b)
  clear Q b
  go_wp2_with fail
  refine HC.out.mono ?_
  rintro e w5 ⟨rfl, Q, b, _⟩
  clear HC
  have HC := hid (a6 Q)
  have HB5 := hid (HB4.out.trans b)
  clear Q b
  go_wp2_with fail
  refine HC.out.mono ?_
  rintro e w6 ⟨rfl, Q, b, _⟩
  clear HC
  have HQ6 := hid Q
  have HB6 := hid (HB5.out.trans b)
  clear Q b
  have EX := hid (eb w6 2)
  have HB7 := hid (HB6.out.trans (EX.out.bel.mono HB6.out.size))
  have HN : Hid (w.heap.size ≤ w6.heap.size) := HB6.out.size
  go_wp2_with (first
    | (refine wpList_load_blk rfl 38 _ rfl w6.heap.size 38 [.int .i64 1, .int .i64 2, .string tyE, .float .f64 one] _ EX.out.edge rfl Tryz.underlying38 rfl size_edg ?_))
  have HC8 := hid (b7 false (HQ6.out.below EX.out.bel))
  refine HC8.out.mono ?_
  rintro e w8 ⟨rfl, Q, b, T⟩
  have HQ8 := hid Q
  have KE8 := hid (EX.out.edge.tfr T (by decide))
  have K8_2 := hid (EX.out.b.tfr T (by decide))
  have K8_1 := hid (EX.out.a.tfr T (by decide))
  have HB8 := hid (HB7.out.trans b)
  clear Q b T HC8
  go_wp2_with (first
    | (refine wpList_store_blk rfl 41 _ _ rfl (w6.heap.size + 2) 41 ansZ (ansCells 0 1) K8_2.out rfl rfl rfl size_ans (ans_all _ _) ?_
       intro w9 k f
       have K9_2 := hid k
       have K9_1 := hid (K8_1.out.fr f (by simp))
       have KE9 := hid (KE8.out.fr f (by simp))
       have HQ9 := hid (HQ8.out.tfr (TFr.set_all K8_2.out f) (by decide))
       have HB9 := hid (HB8.out.trans (f.below HB8.out.size (fun q hq => by
         obtain rfl : q = w6.heap.size + 2 := by simpa using hq
         exact Nat.le_trans HN.out (by omega))))
       clear k f)
    | (refine wpList_load_blk rfl 38 _ rfl w6.heap.size 38 [.int .i64 1, .int .i64 2, .string tyE, .float .f64 one] _ KE9.out rfl Tryz.underlying38 rfl size_edg ?_))
  have HC10 := hid (b8 false HQ9.out)
  refine HC10.out.mono ?_
  rintro e w10 ⟨rfl, Q, b, T⟩
  have HQ10 := hid Q
  have KE10 := hid (KE9.out.tfr T (by decide))
  have K10_1 := hid (K9_1.out.tfr T (by decide))
  have K10_2 := hid (K9_2.out.tfr T (by decide))
  have HB10 := hid (HB9.out.trans b)
  clear Q b T HC10
  go_wp2_with (first
    | (refine wpList_store_blk rfl 41 _ _ rfl (w6.heap.size + 1) 41 ansZ (ansCells 6 0) K10_1.out rfl rfl rfl size_ans (ans_all _ _) ?_
       intro w11 k f
       have K11_1 := hid k
       have K11_2 := hid (K10_2.out.fr f (by simp))
       have KE11 := hid (KE10.out.fr f (by simp))
       have HQ11 := hid (HQ10.out.tfr (TFr.set_all K10_1.out f) (by decide))
       have HB11 := hid (HB10.out.trans (f.below HB10.out.size (fun q hq => by
         obtain rfl : q = w6.heap.size + 1 := by simpa using hq
         exact Nat.le_trans HN.out (by omega))))
       clear k f)
    | (refine wpList_load_blk rfl 38 _ rfl w6.heap.size 38 [.int .i64 1, .int .i64 2, .string tyE, .float .f64 one] _ KE11.out rfl Tryz.underlying38 rfl size_edg ?_))
  have HC12 := hid (b9 (f8 false) 0 3 1 HQ11.out)
  refine HC12.out.mono ?_
  rintro e w12 ⟨rfl, Q, b, T⟩
  have HQ12 := hid Q
  have K12_1 := hid (K11_1.out.tfr T (by decide))
  have K12_2 := hid (K11_2.out.tfr T (by decide))
  have HB12 := hid (HB11.out.trans b)
  clear Q b T HC12
  go_wp2_with fail
  have HC13 := hid (b10 false HQ12.out)
  refine HC13.out.mono ?_
  rintro e w13 ⟨m', rfl, Q, b, T⟩
  have HQ13 := hid Q
  have K13_1 := hid (K12_1.out.tfr T (by decide))
  have K13_2 := hid (K12_2.out.tfr T (by decide))
  have HB13 := hid (HB12.out.trans b)
  clear Q b T HC13
  have AX := hid (ab w13)
  have HQ14 := hid (HQ13.out.below AX.out.bel)
  have K14_1 := hid (K13_1.out.below AX.out.bel K13_1.out.lt)
  have K14_2 := hid (K13_2.out.below AX.out.bel K13_2.out.lt)
  have HB14 := hid (HB13.out.trans (AX.out.bel.mono HB13.out.size))
  have HM : Hid (w.heap.size ≤ w13.heap.size) := HB13.out.size
  have HNE : Hid (w6.heap.size + 1 < w13.heap.size ∧ w6.heap.size + 2 < w13.heap.size) := ⟨K13_1.out.lt, K13_2.out.lt⟩
  go_wp2_with (first
    | (refine wpList_store_blk rfl 41 _ _ rfl (w13.heap.size) 41 ansZ (ansCells 5 0) AX.out.c rfl rfl rfl size_ans (ans_all _ _) ?_
       intro w15 k f
       have HQ15 := hid (HQ14.out.tfr (TFr.set_all AX.out.c f) (by decide))
       have K15_1 := hid (K14_1.out.fr f (by have := HNE.out; simp; omega))
       have K15_2 := hid (K14_2.out.fr f (by have := HNE.out; simp; omega))
       have KC15 := hid k
       have KD15 := hid (AX.out.d.fr f (by simp))
       have HB15 := hid (HB14.out.trans (f.below HB14.out.size (fun q hq => by
         obtain rfl : q = w13.heap.size := by simpa using hq
         exact Nat.le_trans HM.out (by omega))))
       clear k f)
    | (refine wpList_store_blk rfl 41 _ _ rfl (w13.heap.size + 1) 41 ansZ (ansCells 0 0) KD15.out rfl rfl rfl size_ans (ans_all _ _) ?_
       intro w16 k f
       have HQ16 := hid (HQ15.out.tfr (TFr.set_all KD15.out f) (by decide))
       have K16_1 := hid (K15_1.out.fr f (by have := HNE.out; simp; omega))
       have K16_2 := hid (K15_2.out.fr f (by have := HNE.out; simp; omega))
       have KC16 := hid (KC15.out.fr f (by simp))
       have KD16 := hid k
       have HB16 := hid (HB15.out.trans (f.below HB15.out.size (fun q hq => by
         obtain rfl : q = w13.heap.size + 1 := by simpa using hq
         exact Nat.le_trans HM.out (by omega))))
       clear k f))
  refine (db_store w16 B s L 0 0 0 0 2 HQ16.out.db).mono ?_
  rintro e w17 ⟨rfl, rfl⟩
  go_wp2_with fail
  refine (top_image _ w16 s (f9 false) HQ16.out.sto (by decide) (by decide) 3 (imageF false)).mono ?_
  rintro e w18 ⟨A, cap, rfl, b⟩
  have x1 : w18.cell? ⟨w6.heap.size + 1, 0, none⟩ = some (.int .i64 6) := (K16_1.out.below b K16_1.out.lt).cell 0
  have x2 : w18.cell? ⟨w6.heap.size + 2, 0, none⟩ = some (.int .i64 0) := (K16_2.out.below b K16_2.out.lt).cell 0
  have x3 : w18.cell? ⟨w13.heap.size, 0, none⟩ = some (.int .i64 5) := (KC16.out.below b KC16.out.lt).cell 0
  have x4 : w18.cell? ⟨w13.heap.size + 1, 0, none⟩ = some (.int .i64 0) := (KD16.out.below b KD16.out.lt).cell 0
  have HB18 := hid (HB16.out.trans (b.mono HB16.out.size))
  clear b
  go_wp2_with fail
  refine (top_known w18).mono ?_
  rintro e w19 ⟨rfl, b⟩
  have HB19 := hid (HB18.out.trans (b.mono HB18.out.size))
  clear b x1 x2 x3 x4
  go_wp2_with fail
  go_ret
  exact ⟨rfl, HB19.out⟩
end Skew
end Go.Proofs.YtdfkdgnhpdgphaaGreatDoor
