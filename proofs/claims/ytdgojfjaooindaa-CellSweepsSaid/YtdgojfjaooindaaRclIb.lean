/-
  The contract of ligaturelaw7's world.act: a write in both. (Printed by mk/act7.py.)
-/
import Derived.Test.YtdgojfjaooindaaRclIa
namespace Go.Proofs.Ytdgojfjaooindaa
open Go.RowKit Go.Proofs.Lig

section
variable {N : Nat} {w0 w : World} {Z B X D Y : Nat} {n : Int} {c : Clk} {l : List (Ver Int)}
set_option maxRecDepth 100000 in
set_option maxHeartbeats 2000000 in
theorem act7_write (h : ZW N w0 w Z B X D Y n c l c l) (t v : Int) (g : Bool) (er : Int) (l' : List (Ver Int)) (hck : (if Cel.blocked c l t then 6 else 0 : Int) = er) (hg : c.Good) (hl : c.live t = true) (hz : ∀ wq, ZW N w0 wq Z B X D Y n c l c l → Calls Try.prog 42 #[.pointer (some ⟨X, 0, none⟩), .pointer (some ⟨B, 0, none⟩), .int .i64 t, .int .i64 v, .bool g] wq fun e w' => e = .returned (.int .i64 er) ∧ ZW N w0 w' Z B X D Y n c l' c l ∧ TFr zT wq w') (hy : ∀ wq, ZW N w0 wq Z B X D Y n c l' c l → Calls Try.prog 65 #[.pointer (some ⟨Y, 0, none⟩), .pointer (some ⟨D, 0, none⟩), .int .i64 t, .int .i64 v, .bool g] wq fun e w' => e = .returned (.int .i64 er) ∧ ZW N w0 w' Z B X D Y n c l' c l' ∧ TFr zT wq w')  :
    Calls Try.prog 46 #[.pointer (some ⟨Z, 0, none⟩), actV7 4 t v g] w fun e w' => e = .returned (.bool true) ∧ ZW N w0 w' Z B X D Y n c l' c l' := by
  have hb0 : Below w.heap.size w (w.alloc (.cells #[.int .i64 4, .int .i64 t, .int .i64 v, .bool g] 65)) := (Below.refl _ _).alloc (Nat.le_refl _) _
  have H := hid (h.step hb0)
  have HK : Hid (Blk (w.alloc (.cells #[.int .i64 4, .int .i64 t, .int .i64 v, .bool g] 65)) w.heap.size 65 [.int .i64 4, .int .i64 t, .int .i64 v, .bool g]) := Blk.new w _ _
  have HG := hid hg
  have HL := hid hl
  have HZ := hid hz
  have HY := hid hy
  have HV := hid hck
  clear hg hl hz hy hck
  clear h hb0
  have z0 := H.out.blk.cell 0
  have z2 := H.out.blk.cell 2
  simp only [List.getElem?_cons_zero, List.getElem?_cons_succ] at z0 z2
  go_enter Try.func46, Try.ntmps46
  go_wp2_with fail
  go_region_held3 (fun w' => w'.cell? ⟨Z, 2, none⟩ = some (.pointer (some ⟨D, 0, none⟩)) ∧ w'.cell? ⟨w.heap.size, 1, none⟩ = some (.int .i64 t))
    (first
      | exact ⟨H.out.blk.cell 2, HK.out.cell 1⟩
      | go_keep)
    (first
      | (go_at_call 30; refine (y_live (H.out.drewN 1) t _ HL.out).mono ?_; rintro e wl ⟨rfl, rfl⟩))
  have H1 := hid (H.out.drewN 1)
  have HK1 : Hid (Blk ((w.alloc (.cells #[.int .i64 4, .int .i64 t, .int .i64 v, .bool g] 65)).drewN 1) w.heap.size 65 [.int .i64 4, .int .i64 t, .int .i64 v, .bool g]) := HK.out
  clear z0 z2
  go_wp2_with fail
  go_region_held3 (fun w' => w'.cell? ⟨Z, 0, none⟩ = some (.pointer (some ⟨B, 0, none⟩)) ∧ w'.cell? ⟨Z, 1, none⟩ = some (.pointer (some ⟨X, 0, none⟩)) ∧ w'.cell? ⟨Z, 2, none⟩ = some (.pointer (some ⟨D, 0, none⟩)) ∧ w'.cell? ⟨Z, 3, none⟩ = some (.pointer (some ⟨Y, 0, none⟩)) ∧ w'.cell? ⟨w.heap.size, 1, none⟩ = some (.int .i64 t) ∧ w'.cell? ⟨w.heap.size, 2, none⟩ = some (.int .i64 v) ∧ w'.cell? ⟨w.heap.size, 3, none⟩ = some (.bool g))
    (first
      | exact ⟨H1.out.blk.cell 0, H1.out.blk.cell 1, H1.out.blk.cell 2, H1.out.blk.cell 3, HK1.out.cell 1, HK1.out.cell 2, HK1.out.cell 3⟩
      | exact ⟨qa.blk.cell 0, qa.blk.cell 1, qa.blk.cell 2, qa.blk.cell 3, (HK1.out.tfr ta (by decide)).cell 1, (HK1.out.tfr ta (by decide)).cell 2, (HK1.out.tfr ta (by decide)).cell 3⟩
      | exact ⟨qb.blk.cell 0, qb.blk.cell 1, qb.blk.cell 2, qb.blk.cell 3, ((HK1.out.tfr ta (by decide)).tfr tb (by decide)).cell 1, ((HK1.out.tfr ta (by decide)).tfr tb (by decide)).cell 2, ((HK1.out.tfr ta (by decide)).tfr tb (by decide)).cell 3⟩
      | exact ⟨qc.blk.cell 0, qc.blk.cell 1, qc.blk.cell 2, qc.blk.cell 3, (((HK1.out.tfr ta (by decide)).tfr tb (by decide)).tfr tc (by decide)).cell 1, (((HK1.out.tfr ta (by decide)).tfr tb (by decide)).tfr tc (by decide)).cell 2, (((HK1.out.tfr ta (by decide)).tfr tb (by decide)).tfr tc (by decide)).cell 3⟩
      | exact ⟨qd.blk.cell 0, qd.blk.cell 1, qd.blk.cell 2, qd.blk.cell 3, ((((HK1.out.tfr ta (by decide)).tfr tb (by decide)).tfr tc (by decide)).tfr td (by decide)).cell 1, ((((HK1.out.tfr ta (by decide)).tfr tb (by decide)).tfr tc (by decide)).tfr td (by decide)).cell 2, ((((HK1.out.tfr ta (by decide)).tfr tb (by decide)).tfr tc (by decide)).tfr td (by decide)).cell 3⟩
      | go_keep)
    (first
      | (go_at_call 44; refine (z_check (H1.out.drewN 1) HG.out t _ HV.out).mono ?_; rintro e wa ⟨rfl, qa, ta⟩)
      | (go_at_call 64; refine (y_check qa t _ HV.out).mono ?_; rintro e wb ⟨rfl, qb, tb⟩)
      | (go_at_call 42; refine (HZ.out _ qb).mono ?_; rintro e wc ⟨rfl, qc, tc⟩)
      | (go_at_call 65; refine (HY.out _ qc).mono ?_; rintro e wd ⟨rfl, qd, td⟩))
  go_wp2
  go_ret
  exact ⟨by simp, qd⟩

end
end Go.Proofs.Ytdgojfjaooindaa
