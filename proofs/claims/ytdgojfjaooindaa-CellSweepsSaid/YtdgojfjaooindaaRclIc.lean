/-
  The contract of ligaturelaw7's world.act: a sweep in both. (Printed by mk/act7.py.)
-/
import Derived.Test.YtdgojfjaooindaaRclIb
namespace Go.Proofs.Ytdgojfjaooindaa
open Go.RowKit Go.Proofs.Lig

section
variable {N : Nat} {w0 w : World} {Z B X D Y : Nat} {n : Int} {c : Clk} {l : List (Ver Int)}
set_option maxRecDepth 100000 in
set_option maxHeartbeats 2000000 in
theorem act7_sweep (h : ZW N w0 w Z B X D Y n c l c l) (t v : Int) (g : Bool) (val : Bool) (l' : List (Ver Int)) (hv : decide (0 ≤ place (Cel.isSpare c l) l) = val) (hg : c.Good) (hi : Inv c l) (k : Int) (h1 : k ≠ 1) (h2 : k ≠ 2) (h3 : k ≠ 3) (h4 : k ≠ 4) (hz : ∀ wq, ZW N w0 wq Z B X D Y n c l c l → Calls Try.prog 48 #[.pointer (some ⟨X, 0, none⟩), .pointer (some ⟨B, 0, none⟩)] wq fun e w' => e = .returned (.bool val) ∧ ZW N w0 w' Z B X D Y n c l' c l ∧ TFr zT wq w') (hy : ∀ wq, ZW N w0 wq Z B X D Y n c l' c l → Calls Try.prog 67 #[.pointer (some ⟨Y, 0, none⟩), .pointer (some ⟨D, 0, none⟩)] wq fun e w' => e = .returned (.bool val) ∧ ZW N w0 w' Z B X D Y n c l' c l' ∧ TFr zT wq w')  :
    Calls Try.prog 46 #[.pointer (some ⟨Z, 0, none⟩), actV7 k t v g] w fun e w' => e = .returned (.bool true) ∧ ZW N w0 w' Z B X D Y n c l' c l' := by
  have hb0 : Below w.heap.size w (w.alloc (.cells #[.int .i64 k, .int .i64 t, .int .i64 v, .bool g] 65)) := (Below.refl _ _).alloc (Nat.le_refl _) _
  have H := hid (h.step hb0)
  have HK : Hid (Blk (w.alloc (.cells #[.int .i64 k, .int .i64 t, .int .i64 v, .bool g] 65)) w.heap.size 65 [.int .i64 k, .int .i64 t, .int .i64 v, .bool g]) := Blk.new w _ _
  have HV := hid hv
  have HZ := hid hz
  have HY := hid hy
  have HG := hid hg
  have HI := hid hi
  have k1 : (k == 1) = false := by simp [h1]
  have k2 : (k == 2) = false := by simp [h2]
  have k3 : (k == 3) = false := by simp [h3]
  have k4 : (k == 4) = false := by simp [h4]
  clear h1 h2 h3 h4 hg hi hv hz hy
  clear h hb0
  have z0 := H.out.blk.cell 0
  have z2 := H.out.blk.cell 2
  simp only [List.getElem?_cons_zero, List.getElem?_cons_succ] at z0 z2
  go_enter Try.func46, Try.ntmps46
  go_wp2_with fail
  go_region_held3 (fun w' => w'.cell? ⟨Z, 0, none⟩ = some (.pointer (some ⟨B, 0, none⟩)) ∧ w'.cell? ⟨Z, 1, none⟩ = some (.pointer (some ⟨X, 0, none⟩)) ∧ w'.cell? ⟨Z, 2, none⟩ = some (.pointer (some ⟨D, 0, none⟩)) ∧ w'.cell? ⟨Z, 3, none⟩ = some (.pointer (some ⟨Y, 0, none⟩)))
    (first
      | exact ⟨H.out.blk.cell 0, H.out.blk.cell 1, H.out.blk.cell 2, H.out.blk.cell 3⟩
      | exact ⟨qa.blk.cell 0, qa.blk.cell 1, qa.blk.cell 2, qa.blk.cell 3⟩
      | exact ⟨qb.blk.cell 0, qb.blk.cell 1, qb.blk.cell 2, qb.blk.cell 3⟩
      | exact ⟨qc.blk.cell 0, qc.blk.cell 1, qc.blk.cell 2, qc.blk.cell 3⟩
      | exact ⟨qd.blk.cell 0, qd.blk.cell 1, qd.blk.cell 2, qd.blk.cell 3⟩
      | go_keep)
    (first
      | (go_at_call 49; refine (z_spare (H.out.drewN 1) HG.out val HV.out).mono ?_; rintro e wa ⟨rfl, qa, ta⟩)
      | (go_at_call 66; refine (y_spare qa HI.out val HV.out).mono ?_; rintro e wb ⟨rfl, qb, tb⟩)
      | (go_at_call 48; refine (HZ.out _ qb).mono ?_; rintro e wc ⟨rfl, qc, tc⟩)
      | (go_at_call 67; refine (HY.out _ qc).mono ?_; rintro e wd ⟨rfl, qd, td⟩))
  go_wp2
  go_ret
  exact ⟨by simp, qd⟩

end
end Go.Proofs.Ytdgojfjaooindaa
