/-
  A cell of ints: spare, Spare.
-/
import Derived.Laws.EntriesVeiled
import Derived.Test.YtdgojfjaooindaaCelG
namespace Go.Proofs.Ytdgojfjaooindaa
open Go.RowKit Go.Proofs.Lig

theorem place_mem {p : Ver Int → Bool} {l : List (Ver Int)} {y : Ver Int} (hy : y ∈ l) (hp : p y = true) : place p l = ((l.findIdx p : Nat) : Int) ∧ l.findIdx p < l.length := by
  have hlt : l.findIdx p < l.length := List.findIdx_lt_length.2 ⟨y, hy, hp⟩
  refine ⟨place_hit (List.getElem?_eq_getElem hlt) List.findIdx_getElem (fun j z hj hz => ?_), hlt⟩
  have hjl : j < l.length := by omega
  rw [List.getElem?_eq_getElem hjl] at hz
  cases hz
  simpa using List.not_of_lt_findIdx hj

set_option maxHeartbeats 1000000 in
theorem spare_S (w : World) (X : Nat) (A : Option Addr) (cap : Nat) (l : List (Ver Int)) (B : Nat) (S : List Nat) (c : Clk) (h : CelA w X A cap l) (hc : ClkS w B S c) (hg : c.Good) (v : Int) (hv : place (Cel.isSpare c l) l = v) :
    Calls Try.prog 68 #[.pointer (some ⟨X, 0, none⟩), .pointer (some ⟨B, 0, none⟩)] w fun e w' => e = .returned (.int .i64 v) ∧ Below w.heap.size w w' := by
  have hx := h.blk.cell 0
  have hXl := h.blk.lt
  have hlen := h.len
  simp only [List.getElem?_cons_zero] at hx
  have hB1 : Below w.heap.size w ((w.alloc (.cells #[.pointer (some ⟨X, 0, none⟩)] 54)).alloc (.cells #[.pointer (some ⟨B, 0, none⟩)] 22)) := ((Below.refl _ w).alloc (Nat.le_refl _) _).alloc (by simp) _
  have hB2 := hB1.alloc (by simp; omega) (.cells #[.func (.func 78) #[] #[.pointer (some ⟨w.heap.size + 1, 0, none⟩)]] 106)
  have b2 := ((Blk.new w 54 [.pointer (some ⟨X, 0, none⟩)]).alloc (.cells #[.pointer (some ⟨B, 0, none⟩)] 22)).alloc (.cells #[.func (.func 78) #[] #[.pointer (some ⟨w.heap.size + 1, 0, none⟩)]] 106)
  have b3 := (Blk.new (w.alloc (.cells #[.pointer (some ⟨X, 0, none⟩)] 54)) 22 [.pointer (some ⟨B, 0, none⟩)]).alloc (.cells #[.func (.func 78) #[] #[.pointer (some ⟨w.heap.size + 1, 0, none⟩)]] 106)
  have b5 := Blk.new ((w.alloc (.cells #[.pointer (some ⟨X, 0, none⟩)] 54)).alloc (.cells #[.pointer (some ⟨B, 0, none⟩)] 22)) 106 [.func (.func 78) #[] #[.pointer (some ⟨w.heap.size + 1, 0, none⟩)]]
  have k2 := b2.cell 0
  have k3 := b3.cell 0
  have k5 := b5.cell 0
  simp only [List.getElem?_cons_zero, World.size_alloc] at k2 k3 k5
  have kx := (hB2.cell (p := ⟨X, 0, none⟩) hXl).trans hx
  have hI : Calls Try.prog 79 #[.slice A l.length cap, .func (.func 80) #[] #[.pointer (some ⟨w.heap.size, 0, none⟩), .pointer (some ⟨w.heap.size + 1 + 1, 0, none⟩)]]
      (((w.alloc (.cells #[.pointer (some ⟨X, 0, none⟩)] 54)).alloc (.cells #[.pointer (some ⟨B, 0, none⟩)] 22)).alloc (.cells #[.func (.func 78) #[] #[.pointer (some ⟨w.heap.size + 1, 0, none⟩)]] 106)) fun e w' => e = .returned (.int .i64 v) ∧ Below w.heap.size w w' := by
    have hA := h.below hB2
    refine (index_spare _ A cap l #[.pointer (some ⟨w.heap.size, 0, none⟩), .pointer (some ⟨w.heap.size + 1 + 1, 0, none⟩)] (Cel.isSpare c l) hlen hA.versO (fun W y hy hb => ?_) v hv).mono fun e w' hh => ⟨hh.1, hB2.trans (hh.2.mono (by simp; omega))⟩
    obtain ⟨g, rfl, _⟩ := h.form (by have := List.length_pos_of_mem hy; omega)
    obtain ⟨hi, hin⟩ := place_mem (p := fun z => z.who == y.who) hy (by simp)
    rw [app2]
    have hs := hb.size
    simp only [World.size_alloc] at hs
    refine (spare2_S W w.heap.size (w.heap.size + 1) (w.heap.size + 1 + 1) X g cap l.length _ l B S c y rfl (hA.below hb) ((hc.below hB2).below hb) hg ((hb.cell (p := ⟨w.heap.size, 0, none⟩) (by simp; try omega)).trans k2) ((hb.cell (p := ⟨w.heap.size + 1 + 1, 0, none⟩) (by simp; try omega)).trans k5) ((hb.cell (p := ⟨w.heap.size + 1, 0, none⟩) (by simp; try omega)).trans k3) (by omega) (by omega) (by omega) hi hin _ _ rfl rfl).mono ?_
    rintro e w' ⟨rfl, hb2⟩
    exact ⟨by
      simp only [Cel.isSpare]
      congr 3, hb2⟩
  have HI := hid hI
  clear hI h hc hg hv hx hlen hB1 b2 b3 b5
  go_enter Try.func68, Try.ntmps68
  go_wp2_with (go_at_call 79; refine HI.out.mono ?_; rintro e w' ⟨rfl, hb1⟩)
  go_ret
  exact ⟨rfl, hb1⟩

theorem spareB_S (w : World) (X : Nat) (A : Option Addr) (cap : Nat) (l : List (Ver Int)) (B : Nat) (S : List Nat) (c : Clk) (h : CelA w X A cap l) (hc : ClkS w B S c) (hg : c.Good) (v : Bool) (hv : decide (0 ≤ place (Cel.isSpare c l) l) = v) :
    Calls Try.prog 49 #[.pointer (some ⟨X, 0, none⟩), .pointer (some ⟨B, 0, none⟩)] w fun e w' => e = .returned (.bool v) ∧ Below w.heap.size w w' := by
  have HH := hid (spare_S w X A cap l B S c h hc hg _ rfl)
  clear h hc hg
  generalize place (Cel.isSpare c l) l = q at HH hv
  go_enter Try.func49, Try.ntmps49
  go_wp2_with (go_at_call 68; refine HH.out.mono ?_; rintro e w' ⟨rfl, hb1⟩)
  go_ret
  exact ⟨by rw [← hv]; rfl, hb1⟩
end Go.Proofs.Ytdgojfjaooindaa
