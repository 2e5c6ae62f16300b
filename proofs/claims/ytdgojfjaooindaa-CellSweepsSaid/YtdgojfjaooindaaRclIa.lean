/-
  The contract of ligaturelaw7's world.act: an act in both: they do not part. (Printed by mk/act7.py.)
-/
import Derived.Test.YtdgojfjaooindaaRclH
namespace Go.Proofs.Ytdgojfjaooindaa
open Go.RowKit Go.Proofs.Lig

abbrev actV7 (k t v : Int) (g : Bool) : Value := .agg #[.int .i64 k, .int .i64 t, .int .i64 v, .bool g]

section
variable {N : Nat} {w0 w : World} {Z B X D Y : Nat} {n : Int} {c : Clk} {l : List (Ver Int)}
set_option maxRecDepth 100000 in
set_option maxHeartbeats 2000000 in
theorem act7_begin_full (h : ZW N w0 w Z B X D Y n c l c l) (hf : 4 ≤ c.count) (t v : Int) (g : Bool)  :
    Calls Try.prog 46 #[.pointer (some ⟨Z, 0, none⟩), actV7 1 t v g] w fun e w' => e = .returned (.bool true) ∧ ZW N w0 w' Z B X D Y n c l c l := by
  have hb0 : Below w.heap.size w (w.alloc (.cells #[.int .i64 1, .int .i64 t, .int .i64 v, .bool g] 65)) := (Below.refl _ _).alloc (Nat.le_refl _) _
  have H := hid (h.step hb0)
  have HK : Hid (Blk (w.alloc (.cells #[.int .i64 1, .int .i64 t, .int .i64 v, .bool g] 65)) w.heap.size 65 [.int .i64 1, .int .i64 t, .int .i64 v, .bool g]) := Blk.new w _ _
  have HF := hid hf
  clear hf
  clear h hb0
  have z0 := H.out.blk.cell 0
  have z2 := H.out.blk.cell 2
  simp only [List.getElem?_cons_zero, List.getElem?_cons_succ] at z0 z2
  go_enter Try.func46, Try.ntmps46
  go_wp2_with fail
  refine (z_begin_full H.out HF.out).mono ?_
  rintro e w2 ⟨rfl, q2, t2⟩
  have Q2 := hid q2
  have z2 := q2.blk.cell 2
  simp only [List.getElem?_cons_zero, List.getElem?_cons_succ] at z2
  clear q2 t2 z0
  go_wp2_with fail
  refine (y_begin_full Q2.out HF.out).mono ?_
  rintro e w3 ⟨rfl, rfl⟩
  go_wp2_with fail
  go_ret
  exact ⟨by rfl, Q2.out⟩

set_option maxRecDepth 100000 in
set_option maxHeartbeats 2000000 in
theorem act7_begin (h : ZW N w0 w Z B X D Y n c l c l) (hf : c.count < 4) (hn : c.l.length ≤ 1000000) (t v : Int) (g : Bool)  :
    Calls Try.prog 46 #[.pointer (some ⟨Z, 0, none⟩), actV7 1 t v g] w fun e w' => e = .returned (.bool true) ∧ ZW N w0 w' Z B X D Y ((c.l.length : Int) + 1) c.began l c.began l := by
  have hb0 : Below w.heap.size w (w.alloc (.cells #[.int .i64 1, .int .i64 t, .int .i64 v, .bool g] 65)) := (Below.refl _ _).alloc (Nat.le_refl _) _
  have H := hid (h.step hb0)
  have HK : Hid (Blk (w.alloc (.cells #[.int .i64 1, .int .i64 t, .int .i64 v, .bool g] 65)) w.heap.size 65 [.int .i64 1, .int .i64 t, .int .i64 v, .bool g]) := Blk.new w _ _
  have HF := hid hf
  have HN := hid hn
  clear hf hn
  clear h hb0
  have z0 := H.out.blk.cell 0
  have z2 := H.out.blk.cell 2
  simp only [List.getElem?_cons_zero, List.getElem?_cons_succ] at z0 z2
  go_enter Try.func46, Try.ntmps46
  go_wp2_with fail
  refine (z_begin H.out HF.out HN.out _ rfl).mono ?_
  rintro e w2 ⟨rfl, q2, t2⟩
  have Q2 := hid q2
  have z2 := q2.blk.cell 2
  simp only [List.getElem?_cons_zero, List.getElem?_cons_succ] at z2
  clear q2 t2 z0
  go_wp2_with fail
  refine (y_begin Q2.out HF.out HN.out _ rfl).mono ?_
  rintro e w3 ⟨rfl, q3, t3⟩
  have Q3 := hid q3
  have z4 := q3.blk.cell 4
  have f4 := q3.blk.frozen 4
  have zl := q3.blk.lt
  simp only [List.getElem?_cons_zero, List.getElem?_cons_succ] at z4
  clear q3 t3 z2 Q2
  go_wp2_with fail
  go_ret
  exact ⟨by simp, Q3.out.setN _⟩

set_option maxRecDepth 100000 in
set_option maxHeartbeats 2000000 in
theorem act7_commit (h : ZW N w0 w Z B X D Y n c l c l) (hn : c.n ≤ 1000000) (t v : Int) (g : Bool) (hl : c.live t = true) :
    Calls Try.prog 46 #[.pointer (some ⟨Z, 0, none⟩), actV7 2 t v g] w fun e w' => e = .returned (.bool true) ∧ ZW N w0 w' Z B X D Y n (c.committed t) l (c.committed t) l := by
  have hb0 : Below w.heap.size w (w.alloc (.cells #[.int .i64 2, .int .i64 t, .int .i64 v, .bool g] 65)) := (Below.refl _ _).alloc (Nat.le_refl _) _
  have H := hid (h.step hb0)
  have HK : Hid (Blk (w.alloc (.cells #[.int .i64 2, .int .i64 t, .int .i64 v, .bool g] 65)) w.heap.size 65 [.int .i64 2, .int .i64 t, .int .i64 v, .bool g]) := Blk.new w _ _
  have HN := hid hn
  have HL := hid hl
  clear hn hl
  clear h hb0
  have z0 := H.out.blk.cell 0
  have z2 := H.out.blk.cell 2
  simp only [List.getElem?_cons_zero, List.getElem?_cons_succ] at z0 z2
  go_enter Try.func46, Try.ntmps46
  go_wp2_with fail
  go_region_held3 (fun w' => w'.cell? ⟨Z, 0, none⟩ = some (.pointer (some ⟨B, 0, none⟩)) ∧ w'.cell? ⟨Z, 2, none⟩ = some (.pointer (some ⟨D, 0, none⟩)) ∧ w'.cell? ⟨w.heap.size, 1, none⟩ = some (.int .i64 t))
    (first
      | exact ⟨H.out.blk.cell 0, H.out.blk.cell 2, HK.out.cell 1⟩
      | exact ⟨qa.blk.cell 0, qa.blk.cell 2, (HK.out.tfr ta (by decide)).cell 1⟩
      | exact ⟨qb.blk.cell 0, qb.blk.cell 2, ((HK.out.tfr ta (by decide)).tfr tb (by decide)).cell 1⟩
      | go_keep)
    (first
      | (go_at_call 19; refine (z_commit (H.out.drewN 1) t HL.out HN.out).mono ?_; rintro e wa ⟨rfl, qa, ta⟩)
      | (go_at_call 55; refine (y_commit qa t HL.out HN.out).mono ?_; rintro e wb ⟨rfl, qb, tb⟩))
  go_wp2
  go_ret
  exact ⟨by simp, qb⟩

set_option maxRecDepth 100000 in
set_option maxHeartbeats 2000000 in
theorem act7_commit_not (h : ZW N w0 w Z B X D Y n c l c l)  (t v : Int) (g : Bool) (hl : c.live t = false) :
    Calls Try.prog 46 #[.pointer (some ⟨Z, 0, none⟩), actV7 2 t v g] w fun e w' => e = .returned (.bool true) ∧ ZW N w0 w' Z B X D Y n c l c l := by
  have hb0 : Below w.heap.size w (w.alloc (.cells #[.int .i64 2, .int .i64 t, .int .i64 v, .bool g] 65)) := (Below.refl _ _).alloc (Nat.le_refl _) _
  have H := hid (h.step hb0)
  have HK : Hid (Blk (w.alloc (.cells #[.int .i64 2, .int .i64 t, .int .i64 v, .bool g] 65)) w.heap.size 65 [.int .i64 2, .int .i64 t, .int .i64 v, .bool g]) := Blk.new w _ _
  have HL := hid hl
  clear hl
  clear h hb0
  have z0 := H.out.blk.cell 0
  have z2 := H.out.blk.cell 2
  simp only [List.getElem?_cons_zero, List.getElem?_cons_succ] at z0 z2
  go_enter Try.func46, Try.ntmps46
  go_wp2_with fail
  go_region_held3 (fun w' => w'.cell? ⟨Z, 0, none⟩ = some (.pointer (some ⟨B, 0, none⟩)) ∧ w'.cell? ⟨Z, 2, none⟩ = some (.pointer (some ⟨D, 0, none⟩)) ∧ w'.cell? ⟨w.heap.size, 1, none⟩ = some (.int .i64 t))
    (first
      | exact ⟨H.out.blk.cell 0, H.out.blk.cell 2, HK.out.cell 1⟩
      | exact ⟨qa.blk.cell 0, qa.blk.cell 2, (HK.out.tfr ta (by decide)).cell 1⟩
      | exact ⟨qb.blk.cell 0, qb.blk.cell 2, ((HK.out.tfr ta (by decide)).tfr tb (by decide)).cell 1⟩
      | go_keep)
    (first
      | (go_at_call 19; refine (z_commit_not (H.out.drewN 1) t HL.out).mono ?_; rintro e wa ⟨rfl, qa, ta⟩)
      | (go_at_call 55; refine (y_commit_not qa t HL.out).mono ?_; rintro e wb ⟨rfl, qb, tb⟩))
  go_wp2
  go_ret
  exact ⟨by simp, qb⟩

set_option maxRecDepth 100000 in
set_option maxHeartbeats 2000000 in
theorem act7_abort (h : ZW N w0 w Z B X D Y n c l c l) (hg : c.Good) (hi : Inv c l) (hn : l.length ≤ 1000000) (t v : Int) (g : Bool) (hl : c.live t = true) :
    Calls Try.prog 46 #[.pointer (some ⟨Z, 0, none⟩), actV7 3 t v g] w fun e w' => e = .returned (.bool true) ∧ ZW N w0 w' Z B X D Y n (c.dropped t) (Cel.undone l t) (c.dropped t) (Cel.undone l t) := by
  have hb0 : Below w.heap.size w (w.alloc (.cells #[.int .i64 3, .int .i64 t, .int .i64 v, .bool g] 65)) := (Below.refl _ _).alloc (Nat.le_refl _) _
  have H := hid (h.step hb0)
  have HK : Hid (Blk (w.alloc (.cells #[.int .i64 3, .int .i64 t, .int .i64 v, .bool g] 65)) w.heap.size 65 [.int .i64 3, .int .i64 t, .int .i64 v, .bool g]) := Blk.new w _ _
  have HG := hid hg
  have HI := hid hi
  have HN := hid hn
  have HL := hid hl
  clear hg hi hn hl
  clear h hb0
  have z0 := H.out.blk.cell 0
  have z2 := H.out.blk.cell 2
  simp only [List.getElem?_cons_zero, List.getElem?_cons_succ] at z0 z2
  go_enter Try.func46, Try.ntmps46
  go_wp2_with fail
  go_region_held3 (fun w' => w'.cell? ⟨Z, 0, none⟩ = some (.pointer (some ⟨B, 0, none⟩)) ∧ w'.cell? ⟨Z, 2, none⟩ = some (.pointer (some ⟨D, 0, none⟩)) ∧ w'.cell? ⟨w.heap.size, 1, none⟩ = some (.int .i64 t))
    (first
      | exact ⟨H.out.blk.cell 0, H.out.blk.cell 2, HK.out.cell 1⟩
      | exact ⟨qa.blk.cell 0, qa.blk.cell 2, (HK.out.tfr ta (by decide)).cell 1⟩
      | exact ⟨qb.blk.cell 0, qb.blk.cell 2, ((HK.out.tfr ta (by decide)).tfr tb (by decide)).cell 1⟩
      | go_keep)
    (first
      | (go_at_call 27; refine (z_abort (H.out.drewN 1) t HL.out HG.out).mono ?_; rintro e wa ⟨rfl, qa, ta⟩)
      | (go_at_call 56; refine (y_abort qa t HL.out).mono ?_; rintro e wb ⟨rfl, qb, tb⟩))
  have HB : Hid (ZW N w0 wb Z B X D Y n (c.dropped t) l (c.dropped t) l) := qb
  have HKB : Hid (Blk wb w.heap.size 65 [.int .i64 3, .int .i64 t, .int .i64 v, .bool g]) := (HK.out.tfr ta (by decide)).tfr tb (by decide)
  clear qa ta qb tb z0 z2
  go_wp2_with fail
  go_region_held3 (fun w' => w'.cell? ⟨Z, 1, none⟩ = some (.pointer (some ⟨X, 0, none⟩)) ∧ w'.cell? ⟨w.heap.size, 1, none⟩ = some (.int .i64 t))
    (first
      | exact ⟨HB.out.blk.cell 1, HKB.out.cell 1⟩
      | exact ⟨qc.blk.cell 1, (HKB.out.tfr tc (by decide)).cell 1⟩
      | go_keep)
    (first
      | (go_at_call 50; refine (z_undo (HB.out.drewN 1) t).mono ?_; rintro e wc ⟨⟨_, rfl⟩, qc, tc⟩))
  have HC : Hid (ZW N w0 wc Z B X D Y n (c.dropped t) (Cel.undone l t) (c.dropped t) l) := qc
  have HKC : Hid (Blk wc w.heap.size 65 [.int .i64 3, .int .i64 t, .int .i64 v, .bool g]) := HKB.out.tfr tc (by decide)
  clear qc tc HB HKB
  go_wp2_with fail
  go_region_held3 (fun w' => w'.cell? ⟨Z, 3, none⟩ = some (.pointer (some ⟨Y, 0, none⟩)) ∧ w'.cell? ⟨w.heap.size, 1, none⟩ = some (.int .i64 t))
    (first
      | exact ⟨HC.out.blk.cell 3, HKC.out.cell 1⟩
      | exact ⟨qd.blk.cell 3, (HKC.out.tfr td (by decide)).cell 1⟩
      | go_keep)
    (first
      | (go_at_call 63; refine (y_undo (HC.out.drewN 1) HN.out c HI.out t).mono ?_; rintro e wd ⟨⟨_, rfl⟩, qd, td⟩))
  have HD : Hid (ZW N w0 wd Z B X D Y n (c.dropped t) (Cel.undone l t) (c.dropped t) (Cel.undone l t)) := qd
  clear qd td HC HKC
  go_wp2
  go_ret
  exact ⟨by simp, HD.out⟩

set_option maxRecDepth 100000 in
set_option maxHeartbeats 2000000 in
theorem act7_abort_not (h : ZW N w0 w Z B X D Y n c l c l)  (t v : Int) (g : Bool) (hl : c.live t = false) :
    Calls Try.prog 46 #[.pointer (some ⟨Z, 0, none⟩), actV7 3 t v g] w fun e w' => e = .returned (.bool true) ∧ ZW N w0 w' Z B X D Y n c l c l := by
  have hb0 : Below w.heap.size w (w.alloc (.cells #[.int .i64 3, .int .i64 t, .int .i64 v, .bool g] 65)) := (Below.refl _ _).alloc (Nat.le_refl _) _
  have H := hid (h.step hb0)
  have HK : Hid (Blk (w.alloc (.cells #[.int .i64 3, .int .i64 t, .int .i64 v, .bool g] 65)) w.heap.size 65 [.int .i64 3, .int .i64 t, .int .i64 v, .bool g]) := Blk.new w _ _
  have HL := hid hl
  clear hl
  clear h hb0
  have z0 := H.out.blk.cell 0
  have z2 := H.out.blk.cell 2
  simp only [List.getElem?_cons_zero, List.getElem?_cons_succ] at z0 z2
  go_enter Try.func46, Try.ntmps46
  go_wp2_with fail
  go_region_held3 (fun w' => w'.cell? ⟨Z, 0, none⟩ = some (.pointer (some ⟨B, 0, none⟩)) ∧ w'.cell? ⟨Z, 2, none⟩ = some (.pointer (some ⟨D, 0, none⟩)) ∧ w'.cell? ⟨w.heap.size, 1, none⟩ = some (.int .i64 t))
    (first
      | exact ⟨H.out.blk.cell 0, H.out.blk.cell 2, HK.out.cell 1⟩
      | exact ⟨qa.blk.cell 0, qa.blk.cell 2, (HK.out.tfr ta (by decide)).cell 1⟩
      | exact ⟨qb.blk.cell 0, qb.blk.cell 2, ((HK.out.tfr ta (by decide)).tfr tb (by decide)).cell 1⟩
      | go_keep)
    (first
      | (go_at_call 27; refine (z_abort_not (H.out.drewN 1) t HL.out).mono ?_; rintro e wa ⟨rfl, qa, ta⟩)
      | (go_at_call 56; refine (y_abort_not qa t HL.out).mono ?_; rintro e wb ⟨rfl, qb, tb⟩))
  have HB : Hid (ZW N w0 wb Z B X D Y n c l c l) := qb
  clear qa ta qb tb z0 z2
  go_wp2
  go_ret
  exact ⟨by simp, HB.out⟩

set_option maxRecDepth 100000 in
set_option maxHeartbeats 2000000 in
theorem act7_write_not (h : ZW N w0 w Z B X D Y n c l c l)  (t v : Int) (g : Bool) (hl : c.live t = false) :
    Calls Try.prog 46 #[.pointer (some ⟨Z, 0, none⟩), actV7 4 t v g] w fun e w' => e = .returned (.bool true) ∧ ZW N w0 w' Z B X D Y n c l c l := by
  have hb0 : Below w.heap.size w (w.alloc (.cells #[.int .i64 4, .int .i64 t, .int .i64 v, .bool g] 65)) := (Below.refl _ _).alloc (Nat.le_refl _) _
  have H := hid (h.step hb0)
  have HK : Hid (Blk (w.alloc (.cells #[.int .i64 4, .int .i64 t, .int .i64 v, .bool g] 65)) w.heap.size 65 [.int .i64 4, .int .i64 t, .int .i64 v, .bool g]) := Blk.new w _ _
  have HL := hid hl
  clear hl
  clear h hb0
  have z0 := H.out.blk.cell 0
  have z2 := H.out.blk.cell 2
  simp only [List.getElem?_cons_zero, List.getElem?_cons_succ] at z0 z2
  go_enter Try.func46, Try.ntmps46
  go_wp2_with fail
  go_region_held3 (fun w' => w'.cell? ⟨Z, 2, none⟩ = some (.pointer (some ⟨D, 0, none⟩)) ∧ w'.cell? ⟨w.heap.size, 1, none⟩ = some (.int .i64 t))
    (first
      | exact ⟨H.out.blk.cell 2, HK.out.cell 1⟩
      | go_keep)
    (first
      | (go_at_call 30; refine (y_live (H.out.drewN 1) t _ HL.out).mono ?_; rintro e wl ⟨rfl, rfl⟩))
  have H1 := hid (H.out.drewN 1)
  clear z0 z2
  go_wp2
  go_ret
  exact ⟨by rfl, H1.out⟩

end
end Go.Proofs.Ytdgojfjaooindaa
