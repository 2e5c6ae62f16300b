/-
  A cell of values of several cells: Read, Last. (Printed by mk/celgen.py.)
-/
import Derived.Laws.EntriesVeiled
import Derived.Test.YtdfkdgnhpdgphaaGreatDoorSkw17
import Derived.Test.YtdfkdgnhpdgphaaGreatDoorSkw4
import Derived.Test.YtdfkdgnhpdgphaaGreatDoorSkw19
namespace Go.Proofs.YtdfkdgnhpdgphaaGreatDoor.Edg
open Go.RowKit Go.Proofs.Lig
attribute [local go_sem] run_store_float

set_option maxRecDepth 100000 in
theorem size_val : (Tryz.prog.info? 38).map (·.size) = some ([.int .i64 0, .int .i64 0, .string ⟨#[]⟩, .float .f64 0] : List Value).length := by kernel_rfl
theorem app2 (a b c : Value) : (#[a] ++ #[b, c] : Array Value) = #[a, b, c] := by simp
theorem read1_S (w : World) (T1 T2 : Nat) (B : Nat) (S : List Nat) (c : Clk) (t who : Int) (h1 : w.cell? ⟨T1, 0, none⟩ = some (.pointer (some ⟨B, 0, none⟩))) (h2 : w.cell? ⟨T2, 0, none⟩ = some (.int .i64 t)) (hc : ClkS w B S c) (hg : c.Good) :
    Calls Tryz.prog 273 #[.int .i64 who, .pointer (some ⟨T1, 0, none⟩), .pointer (some ⟨T2, 0, none⟩)] w fun e w' => e = .returned (.bool (c.sees t who)) ∧ Below w.heap.size w w' := by
  have HC := hid hc
  have HG := hid hg
  clear hc hg
  go_enter Tryz.func273, Tryz.ntmps273
  go_wp2_with (go_at_call 271; refine (sees_S _ B S c t who HC.out HG.out _ rfl).mono ?_; rintro e wa ⟨rfl, hb⟩)
  go_ret
  exact ⟨rfl, hb⟩
set_option maxRecDepth 100000 in
theorem read_S (w : World) (X : Nat) (A : Option Addr) (cap : Nat) (l : List (Ver EdgV)) (B : Nat) (S : List Nat) (c : Clk) (t : Int) (h : CelA w X A cap l) (hc : ClkS w B S c) (hg : c.Good) (v : EdgV) (ok : Bool) (hv : (Cel.lastBy (c.sees t) l).getD ⟨0, 0, ⟨#[]⟩, 0⟩ = v) (hok : (Cel.lastBy (c.sees t) l).isSome = ok) :
    Calls Tryz.prog 209 #[.pointer (some ⟨X, 0, none⟩), .pointer (some ⟨B, 0, none⟩), .int .i64 t] w fun e w' => e = .returned (.tuple #[.agg #[.int .i64 v.src, .int .i64 v.dst, .string v.ty, .float .f64 v.w], .bool ok]) ∧ Below w.heap.size w w' := by
  have hB : Below w.heap.size w (((w.alloc (.cells #[.pointer (some ⟨B, 0, none⟩)] 91)).alloc (.cells #[.int .i64 t] 3)).alloc (.cells #[.int .i64 0, .int .i64 0, .string ⟨#[]⟩, .float .f64 0] 38)) := (((Below.refl _ w).alloc (Nat.le_refl _) _).alloc (by simp) _).alloc (by simp; omega) _
  have b1 := ((Blk.new w 91 [.pointer (some ⟨B, 0, none⟩)]).alloc (.cells #[.int .i64 t] 3)).alloc (.cells #[.int .i64 0, .int .i64 0, .string ⟨#[]⟩, .float .f64 0] 38)
  have b2 := (Blk.new (w.alloc (.cells #[.pointer (some ⟨B, 0, none⟩)] 91)) 3 [.int .i64 t]).alloc (.cells #[.int .i64 0, .int .i64 0, .string ⟨#[]⟩, .float .f64 0] 38)
  have b3 := Blk.new ((w.alloc (.cells #[.pointer (some ⟨B, 0, none⟩)] 91)).alloc (.cells #[.int .i64 t] 3)) 38 [.int .i64 0, .int .i64 0, .string ⟨#[]⟩, .float .f64 0]
  have k1 := b1.cell 0
  have k2 := b2.cell 0
  simp only [List.getElem?_cons_zero, World.size_alloc] at k1 k2 b3
  have HL : Hid (Calls Tryz.prog 88 #[.pointer (some ⟨X, 0, none⟩), .func (.func 273) #[] #[.pointer (some ⟨w.heap.size, 0, none⟩), .pointer (some ⟨w.heap.size + 1, 0, none⟩)]] (((w.alloc (.cells #[.pointer (some ⟨B, 0, none⟩)] 91)).alloc (.cells #[.int .i64 t] 3)).alloc (.cells #[.int .i64 0, .int .i64 0, .string ⟨#[]⟩, .float .f64 0] 38)) fun e w' => e = .returned (.tuple #[.agg #[.int .i64 v.src, .int .i64 v.dst, .string v.ty, .float .f64 v.w], .bool ok]) ∧ Below w.heap.size w w' ∧ Blk w' (w.heap.size + 1 + 1) 38 [.int .i64 0, .int .i64 0, .string ⟨#[]⟩, .float .f64 0]) := by
    refine (callsIn_wide.1 (cel_last_in Fence.wide (fun _ => trivial) rfl _ X A cap l #[.pointer (some ⟨w.heap.size, 0, none⟩), .pointer (some ⟨w.heap.size + 1, 0, none⟩)] (c.sees t) (h.below hB) (fun W who hb => callsIn_wide.2 ?_))).mono ?_
    · have hs := hb.size
      simp only [World.size_alloc] at hs
      rw [app2]
      exact read1_S W _ _ B S c t who ((hb.cell (p := ⟨w.heap.size, 0, none⟩) (by simp; try omega)).trans k1) ((hb.cell (p := ⟨w.heap.size + 1, 0, none⟩) (by simp)).trans k2) ((hc.below hB).below hb) hg
    · rintro e w' ⟨⟨v', he, hv'⟩, hb⟩
      rw [hok] at he
      rw [hv] at hv'
      subst hv'
      exact ⟨he, hB.trans (hb.mono (by simp; omega)), b3.below hb (by simp)⟩
  clear h hc hg hv hok hB b1 b2 b3 k1 k2
  go_enter Tryz.func209, Tryz.ntmps209
  go_wp2_with fail
  refine HL.out.mono ?_
  rintro e w' ⟨rfl, hb1, q1⟩
  have HQ := hid q1
  have k1 := q1.cell 0
  have f1 := q1.frozen 0
  have k2 := q1.cell 1
  have f2 := q1.frozen 1
  have k3 := q1.cell 2
  have f3 := q1.frozen 2
  have k4 := q1.cell 3
  have f4 := q1.frozen 3
  have hl := q1.lt
  simp only [List.getElem?_cons_zero, List.getElem?_cons_succ] at k1 k2 k3 k4 
  clear q1
  go_wp2_with fail
  have hW := ((((HQ.out.set_ 0 (.int .i64 v.src)).set_ 1 (.int .i64 v.dst)).set_ 2 (.string v.ty)).set_ 3 (.float .f64 v.w))
  have hF := (((((hb1.setCell (p := ⟨w.heap.size + 1 + 1, 0, none⟩) (by simp; omega) (.int .i64 v.src)).setCell (p := ⟨w.heap.size + 1 + 1, 1, none⟩) (by simp; omega) (.int .i64 v.dst)).setCell (p := ⟨w.heap.size + 1 + 1, 2, none⟩) (by simp; omega) (.string v.ty)).setCell (p := ⟨w.heap.size + 1 + 1, 3, none⟩) (by simp; omega) (.float .f64 v.w)))
  exact bodyPost_ret (res_cell rfl _ _ _ _ [.int .i64 v.src, .int .i64 v.dst, .string v.ty, .float .f64 v.w] _ hW rfl Tryz.underlying38 rfl size_val) rfl ⟨rfl, hF⟩
/-- What one that begins now would read. -/
def doneBy (c : Clk) (who : Int) : Bool := !c.live who && !c.aborted who
set_option maxRecDepth 100000 in
theorem last1_S (w : World) (T1 : Nat) (B : Nat) (S : List Nat) (c : Clk) (who : Int) (h1 : w.cell? ⟨T1, 0, none⟩ = some (.pointer (some ⟨B, 0, none⟩))) (hc : ClkS w B S c) :
    Calls Tryz.prog 89 #[.int .i64 who, .pointer (some ⟨T1, 0, none⟩)] w fun e w' => e = .returned (.bool (doneBy c who)) ∧ Below w.heap.size w w' := by
  obtain ⟨v1, e1⟩ : ∃ v, c.live who = v := ⟨_, rfl⟩
  obtain ⟨v2, e2⟩ : ∃ v, c.aborted who = v := ⟨_, rfl⟩
  have HC := hid hc
  have E1 := hid e1
  have E2 := hid e2
  have HD : Hid (doneBy c who = (!v1 && !v2)) := by show _ = _; unfold doneBy; rw [e1, e2]
  clear hc e1 e2
  cases v1
  all_goals
    go_enter Tryz.func89, Tryz.ntmps89
    go_wp2_with (first
      | (go_at_call 86; refine (live_S _ B S c who HC.out _ E1.out).mono ?_; rintro e wa ⟨rfl, rfl⟩)
      | (go_at_call 87; refine (aborted_S _ B S c who HC.out _ E2.out).mono ?_; rintro e wa ⟨rfl, rfl⟩))
    go_ret
    exact ⟨by rw [HD.out]; rfl, Below.refl _ _⟩
set_option maxRecDepth 100000 in
theorem last_S (w : World) (X : Nat) (A : Option Addr) (cap : Nat) (l : List (Ver EdgV)) (B : Nat) (S : List Nat) (c : Clk) (h : CelA w X A cap l) (hc : ClkS w B S c) (v : EdgV) (ok : Bool) (hv : (Cel.lastBy (doneBy c) l).getD ⟨0, 0, ⟨#[]⟩, 0⟩ = v) (hok : (Cel.lastBy (doneBy c) l).isSome = ok) :
    Calls Tryz.prog 36 #[.pointer (some ⟨X, 0, none⟩), .pointer (some ⟨B, 0, none⟩)] w fun e w' => e = .returned (.tuple #[.agg #[.int .i64 v.src, .int .i64 v.dst, .string v.ty, .float .f64 v.w], .bool ok]) ∧ Below w.heap.size w w' := by
  have hB : Below w.heap.size w ((w.alloc (.cells #[.pointer (some ⟨B, 0, none⟩)] 91)).alloc (.cells #[.int .i64 0, .int .i64 0, .string ⟨#[]⟩, .float .f64 0] 38)) := ((Below.refl _ w).alloc (Nat.le_refl _) _).alloc (by simp) _
  have k1 := ((Blk.new w 91 [.pointer (some ⟨B, 0, none⟩)]).alloc (.cells #[.int .i64 0, .int .i64 0, .string ⟨#[]⟩, .float .f64 0] 38)).cell 0
  have b3 := Blk.new (w.alloc (.cells #[.pointer (some ⟨B, 0, none⟩)] 91)) 38 [.int .i64 0, .int .i64 0, .string ⟨#[]⟩, .float .f64 0]
  simp only [List.getElem?_cons_zero, World.size_alloc] at k1 b3
  have HL : Hid (Calls Tryz.prog 88 #[.pointer (some ⟨X, 0, none⟩), .func (.func 89) #[] #[.pointer (some ⟨w.heap.size, 0, none⟩)]] ((w.alloc (.cells #[.pointer (some ⟨B, 0, none⟩)] 91)).alloc (.cells #[.int .i64 0, .int .i64 0, .string ⟨#[]⟩, .float .f64 0] 38)) fun e w' => e = .returned (.tuple #[.agg #[.int .i64 v.src, .int .i64 v.dst, .string v.ty, .float .f64 v.w], .bool ok]) ∧ Below w.heap.size w w' ∧ Blk w' (w.heap.size + 1) 38 [.int .i64 0, .int .i64 0, .string ⟨#[]⟩, .float .f64 0]) := by
    refine (callsIn_wide.1 (cel_lastL_in Fence.wide (fun _ => trivial) rfl _ X A cap l #[.pointer (some ⟨w.heap.size, 0, none⟩)] (doneBy c) (h.below hB) (fun W who hb => callsIn_wide.2 ?_))).mono ?_
    · rw [app1]
      exact last1_S W _ B S c who ((hb.cell (p := ⟨w.heap.size, 0, none⟩) (by simp; omega)).trans k1) ((hc.below hB).below hb)
    · rintro e w' ⟨⟨v', he, hv'⟩, hb⟩
      rw [hok] at he
      rw [hv] at hv'
      subst hv'
      exact ⟨he, hB.trans (hb.mono (by simp; omega)), b3.below hb (by simp)⟩
  clear h hc hv hok hB k1 b3
  go_enter Tryz.func36, Tryz.ntmps36
  go_wp2_with fail
  refine HL.out.mono ?_
  rintro e w' ⟨rfl, hb1, q1⟩
  have HQ := hid q1
  have k1 := q1.cell 0
  have f1 := q1.frozen 0
  have k2 := q1.cell 1
  have f2 := q1.frozen 1
  have k3 := q1.cell 2
  have f3 := q1.frozen 2
  have k4 := q1.cell 3
  have f4 := q1.frozen 3
  have hl := q1.lt
  simp only [List.getElem?_cons_zero, List.getElem?_cons_succ] at k1 k2 k3 k4 
  clear q1
  go_wp2_with fail
  have hW := ((((HQ.out.set_ 0 (.int .i64 v.src)).set_ 1 (.int .i64 v.dst)).set_ 2 (.string v.ty)).set_ 3 (.float .f64 v.w))
  have hF := (((((hb1.setCell (p := ⟨w.heap.size + 1, 0, none⟩) (by simp) (.int .i64 v.src)).setCell (p := ⟨w.heap.size + 1, 1, none⟩) (by simp) (.int .i64 v.dst)).setCell (p := ⟨w.heap.size + 1, 2, none⟩) (by simp) (.string v.ty)).setCell (p := ⟨w.heap.size + 1, 3, none⟩) (by simp) (.float .f64 v.w)))
  exact bodyPost_ret (res_cell rfl _ _ _ _ [.int .i64 v.src, .int .i64 v.dst, .string v.ty, .float .f64 v.w] _ hW rfl Tryz.underlying38 rfl size_val) rfl ⟨rfl, hF⟩
end Go.Proofs.YtdfkdgnhpdgphaaGreatDoor.Edg
