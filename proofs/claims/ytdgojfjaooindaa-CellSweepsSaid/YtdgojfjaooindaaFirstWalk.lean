/-
  The walk of ligaturelaw7.CellFirst: it answers true.
-/
import Derived.Test.YtdgojfjaooindaaCelK
import Derived.Test.YtdgojfjaooindaaKnown7
namespace Go.Proofs.Ytdgojfjaooindaa
open Go.RowKit Go.Proofs.Lig

/-- ligaturelaw7.begin: a world of a clock and a cell (and the two of the reference, of which nothing is said). -/
theorem begin7 (w : World) : Calls Try.prog 45 #[] w fun e w' => ∃ Z B X D Y, e = .returned (.pointer (some ⟨Z, 0, none⟩)) ∧ w.heap.size ≤ Z ∧ Z < w'.heap.size ∧
    Blk w' Z 68 [.pointer (some ⟨B, 0, none⟩), .pointer (some ⟨X, 0, none⟩), .pointer D, .pointer Y, .int .i64 0] ∧ CC w.heap.size w w' B Clk.new X [] := by
  go_enter Try.func45, Try.ntmps45
  go_wp2_with fail
  refine (new_N w).mono ?_
  rintro e w1 ⟨rfl, h1, _⟩
  go_wp2_with fail
  refine (new_C h1).mono ?_
  rintro e w2 ⟨rfl, h⟩
  have hX : w1.heap.size = w1.heap.size := rfl
  generalize w1.heap.size = X at h ⊢
  clear h1 hX
  go_wp2_with fail
  go_ret
  have hb := ((((Below.refl _ w2).alloc (Nat.le_refl _) (.cells #[.slice none 0 0, .int .i64 0] 36)).alloc (by simp) (.cells #[.slice none 0 0] 99)).alloc (by simp; omega) (.cells #[.pointer (some ⟨w.heap.size, 0, none⟩), .pointer (some ⟨X, 0, none⟩), .pointer (some ⟨w2.heap.size, 0, none⟩), .pointer (some ⟨w2.heap.size + 1, 0, none⟩), .int .i64 0] 68))
  have bz := Blk.new ((w2.alloc (.cells #[.slice none 0 0, .int .i64 0] 36)).alloc (.cells #[.slice none 0 0] 99)) 68 [.pointer (some ⟨w.heap.size, 0, none⟩), .pointer (some ⟨X, 0, none⟩), .pointer (some ⟨w2.heap.size, 0, none⟩), .pointer (some ⟨w2.heap.size + 1, 0, none⟩), .int .i64 0]
  simp only [World.size_alloc] at bz
  have hs := h.size
  exact ⟨_, _, X, _, _, rfl, by omega, by simp, bz, h.step hb⟩

section
variable {N : Nat} {w0 w w' : World} {B : Nat} {c c' : Clk} {X : Nat} {l l' : List (Ver Int)}
theorem begin_Z (h : CC N w0 w B c X l) (hf : c.count < 4) (hn : c.l.length ≤ 1000000) (v : Int) (hv : (c.l.length : Int) + 1 = v) :
    Calls Try.prog 18 #[.pointer (some ⟨B, 0, none⟩)] w fun e w' => e = .returned (.tuple #[.int .i64 v, .int .i64 0]) ∧ CC N w0 w' B c.began X l ∧ TFr clkT w w' :=
  (begin_N h.clk hf hn v hv).mono fun _ _ ⟨he, h', hf⟩ => ⟨he, h.ofClk h' hf, hf⟩
theorem commit_Z (h : CC N w0 w B c X l) (t : Int) (hlv : c.live t = true) (hn : c.n ≤ 1000000) :
    Calls Try.prog 19 #[.pointer (some ⟨B, 0, none⟩), .int .i64 t] w fun e w' => e = .returned (.int .i64 0) ∧ CC N w0 w' B (c.committed t) X l ∧ TFr clkT w w' :=
  (commit_N h.clk t hlv hn).mono fun _ _ ⟨he, h', hf⟩ => ⟨he, h.ofClk h' hf, hf⟩
theorem abort_Z (h : CC N w0 w B c X l) (t : Int) (hlv : c.live t = true) (hg : c.Good) :
    Calls Try.prog 27 #[.pointer (some ⟨B, 0, none⟩), .int .i64 t] w fun e w' => e = .returned (.int .i64 0) ∧ CC N w0 w' B (c.dropped t) X l ∧ TFr clkT w w' :=
  (abort_N h.clk t hlv hg).mono fun _ _ ⟨he, h', hf⟩ => ⟨he, h.ofClk h' hf, hf⟩
theorem write_no_Z (h : CC N w0 w B c X l) (hg : c.Good) (t v : Int) (gone : Bool) (hb : Cel.blocked c l t = true) :
    Calls Try.prog 42 #[.pointer (some ⟨X, 0, none⟩), .pointer (some ⟨B, 0, none⟩), .int .i64 t, .int .i64 v, .bool gone] w fun e w' => e = .returned (.int .i64 6) ∧ Below w.heap.size w w' :=
  cel_write_clash w X (some ⟨B, 0, none⟩) t v gone 6 (by decide) (check_C h hg t 6 (by rw [hb]; rfl))
theorem read_Z (h : CC N w0 w B c X l) (hg : c.Good) (t : Int) (v : Int) (ok : Bool) (hv : (Cel.lastBy (c.sees t) l).getD 0 = v) (hok : (Cel.lastBy (c.sees t) l).isSome = ok) :
    Calls Try.prog 43 #[.pointer (some ⟨X, 0, none⟩), .pointer (some ⟨B, 0, none⟩), .int .i64 t] w fun e w' => e = .returned (.tuple #[.int .i64 v, .bool ok]) ∧ Below w.heap.size w w' := by
  obtain ⟨S, ⟨A, cap, hl, rfl⟩, hs⟩ := h.cel
  obtain ⟨_, _, SC, hc, _⟩ := h.clk
  exact read_S w X A cap l B SC c t hl hc hg v ok hv hok
theorem write_Z (h : CC N w0 w B c X l) (hg : c.Good) (t v : Int) (gone : Bool) (hb : Cel.blocked c l t = false) (hn : l.length ≤ 1000000) :
    Calls Try.prog 42 #[.pointer (some ⟨X, 0, none⟩), .pointer (some ⟨B, 0, none⟩), .int .i64 t, .int .i64 v, .bool gone] w fun e w' => e = .returned (.int .i64 0) ∧ CC N w0 w' B c X (Cel.written l t v gone) ∧ TFr celT w w' := by
  have hck := check_C h hg t 0 (by rw [hb]; rfl)
  obtain ⟨S, ⟨A, cap, hl, rfl⟩, hs⟩ := h.cel
  cases hm : Cel.mine l t
  · refine (cel_write_more w X A cap (some ⟨B, 0, none⟩) l t v gone hl hm hn hck).mono ?_
    rintro e w' ⟨he, A', cap', hl', hsub, hf⟩
    simp only [Cel.written, hm, Bool.false_eq_true, if_false]
    exact ⟨he, h.ofCel ⟨A, cap, hl, rfl⟩ hs ⟨A', cap', hl', rfl⟩ (by cases A' <;> exact hsub) hf, .of_fr hf (CelS.typed ⟨A, cap, hl, rfl⟩)⟩
  · obtain ⟨l', y, rfl⟩ : ∃ l' y, l = l' ++ [y] := by
      rcases List.eq_nil_or_concat l with rfl | ⟨l', y, rfl⟩
      · simp [Cel.mine] at hm
      · exact ⟨l', y, by simp⟩
    obtain ⟨g, rfl, _⟩ := hl.form (by simp)
    have hy : (y.who == t) = true := by simpa [Cel.mine] using hm
    refine (cel_write_mine w X g cap (some ⟨B, 0, none⟩) l' y t v gone hl hy hck).mono ?_
    rintro e w' ⟨he, hl', hf⟩
    simp only [Cel.written, hm, if_true, List.dropLast_concat]
    refine ⟨he, h.ofCel ⟨_, cap, hl, rfl⟩ hs ⟨_, cap, hl', rfl⟩ ?_ ?_, .of_fr (S := X :: (Value.slice (some ⟨g, 0, none⟩) (l' ++ [y]).length cap).ownBlock.toList) (by simpa [Value.ownBlock] using hf) (CelS.typed ⟨_, cap, hl, rfl⟩)⟩
    · simpa [Value.ownBlock] using Sub.refl [X, g] w.heap.size
    · simpa [Value.ownBlock] using hf
end

set_option maxHeartbeats 1000000 in
theorem undo_Z {N : Nat} {w0 w : World} {B : Nat} {c : Clk} {X : Nat} {l : List (Ver Int)} (h : CC N w0 w B c X l) (t : Int) :
    Calls Try.prog 50 #[.pointer (some ⟨X, 0, none⟩), .int .i64 t] w fun e w' => (∃ u, e = .returned u) ∧ CC N w0 w' B c X (Cel.undone l t) ∧ TFr celT w w' := by
  obtain ⟨S, ⟨A, cap, hl, rfl⟩, hs⟩ := h.cel
  have HK := hid (undo_call w X A cap l t hl)
  have HL := hid hl
  have hx := (((Below.refl _ w).alloc (Nat.le_refl _) (.cells #[.int .i64 t] 3)).cell (p := ⟨X, 0, none⟩) hl.blk.lt).trans (hl.blk.cell 0)
  simp only [List.getElem?_cons_zero] at hx
  have HH := hid h
  have HS := hid hs
  clear hl h hs
  go_enter Try.func50, Try.ntmps50
  go_wp2_with fail
  refine HK.out.mono ?_
  rintro e w2 ⟨rfl, hX2, ho2, hf2⟩
  have e0 := hX2.cell 0
  have e1 := hX2.frozen 0
  simp only [List.getElem?_cons_zero] at e0
  have HX2 := hid hX2
  have HO := hid ho2
  have HF := hid hf2
  clear hX2 ho2 hf2 hx HK
  go_wp2
  go_end0
  have hset := HX2.out.set_ 0 (.slice A (Cel.undone l t).length cap)
  simp only [List.set_cons_zero] at hset
  have hne : (Value.slice A (Cel.undone l t).length cap).ownBlock ≠ some X := by
    have := own_ne HO.out HX2.out (by decide)
    exact this
  refine ⟨⟨_, rfl⟩, HH.out.ofCel ⟨A, cap, HL.out, rfl⟩ HS.out ⟨A, cap, ⟨hset, own_far HO.out hne _⟩, rfl⟩ ?_ (HF.out.setCell (.inl (by simp)) _), .of_fr (HF.out.setCell (.inl (by simp)) _) (CelS.typed ⟨A, cap, HL.out, rfl⟩)⟩
  cases A <;> exact Sub.refl _ _

set_option maxRecDepth 100000 in
set_option maxHeartbeats 4000000 in
theorem first_walk (a b : Int) (cm : Bool) (w : World) : Calls Try.prog 13 #[.int .i64 a, .int .i64 b, .bool cm] w fun e w' => e = .returned (.bool true) ∧ Below w.heap.size w w' := by
  have g2 := hid (Clk.good_new.began.began)
  cases cm
  all_goals
    go_enter Try.func13, Try.ntmps13
    go_wp2_with fail
    refine (begin7 w).mono ?_
    rintro e w1 ⟨Z, B, X, D, Y, rfl, hZ1, hZ2, bz, h1⟩
    clear hZ1 hZ2
    have z0 := bz.cell 0
    have z1 := bz.cell 1
    simp only [List.getElem?_cons_zero, List.getElem?_cons_succ] at z0 z1
    go_wp2_with fail
    refine (begin_Z h1 (by decide) (by decide) 1 (by decide)).mono ?_
    rintro e w2 ⟨rfl, h2, hf⟩
    replace bz := bz.tfr hf (by decide)
    clear h1 z0 z1 hf
    have z0 := bz.cell 0
    have z1 := bz.cell 1
    simp only [List.getElem?_cons_zero, List.getElem?_cons_succ] at z0 z1
    go_wp2_with fail
    refine (begin_Z h2 (by decide) (by decide) 2 (by decide)).mono ?_
    rintro e w3 ⟨rfl, h3, hf⟩
    replace bz := bz.tfr hf (by decide)
    clear h2 z0 z1 hf
    have z0 := bz.cell 0
    have z1 := bz.cell 1
    simp only [List.getElem?_cons_zero, List.getElem?_cons_succ] at z0 z1
    go_wp2_with fail
    go_region_held3 (fun w5 => w5.cell? ⟨Z, 0, none⟩ = some (.pointer (some ⟨B, 0, none⟩)) ∧ w5.cell? ⟨Z, 1, none⟩ = some (.pointer (some ⟨X, 0, none⟩)))
      (first | exact ⟨z0, z1⟩ | exact ⟨(bz4.cell 0).trans rfl, (bz4.cell 1).trans rfl⟩ | exact ⟨(bz5.cell 0).trans rfl, (bz5.cell 1).trans rfl⟩)
      (first
        | (go_at_call 42; refine (write_Z (h3.step (below_drewN w3 1)) g2.out 1 a false (by rfl) (by decide)).mono ?_; rintro e w4 ⟨rfl, h4, hf⟩; have bz4 := (bz.drewN 1).tfr hf (by decide)))
    clear h3 hf bz z0 z1
    have bz := bz4
    clear bz4
    have z0 := bz.cell 0
    have z1 := bz.cell 1
    simp only [List.getElem?_cons_zero, List.getElem?_cons_succ] at z0 z1
    go_wp2_with fail
    go_region_held3 (fun w5 => w5.cell? ⟨Z, 0, none⟩ = some (.pointer (some ⟨B, 0, none⟩)) ∧ w5.cell? ⟨Z, 1, none⟩ = some (.pointer (some ⟨X, 0, none⟩)))
      (first | exact ⟨z0, z1⟩ | exact ⟨(bz4.cell 0).trans rfl, (bz4.cell 1).trans rfl⟩ | exact ⟨(bz5.cell 0).trans rfl, (bz5.cell 1).trans rfl⟩)
      (first
        | (go_at_call 42; refine (write_no_Z (h4.step (below_drewN w4 1)) g2.out 2 b false (by rfl)).mono ?_; rintro e w5 ⟨rfl, hb⟩; have h5 := (h4.step (below_drewN w4 1)).step hb; have bz4 := (bz.drewN 1).tfr (.of_below (ts := []) hb) (by simp)))
    clear hb
    clear h4 bz z0 z1
    have bz := bz4
    clear bz4
    have z0 := bz.cell 0
    have z1 := bz.cell 1
    simp only [List.getElem?_cons_zero, List.getElem?_cons_succ] at z0 z1
    go_wp2_with fail
  · refine (abort_Z h5 1 (by decide) g2.out).mono ?_
    rintro e w6 ⟨rfl, h6, hf⟩
    have bz4 := bz.tfr hf (by decide)
    clear h5 hf bz z0 z1
    have bz := bz4
    clear bz4
    have z0 := bz.cell 0
    have z1 := bz.cell 1
    simp only [List.getElem?_cons_zero, List.getElem?_cons_succ] at z0 z1
    go_wp2_with fail
    refine (undo_Z h6 1).mono ?_
    rintro e w7 ⟨⟨u1, rfl⟩, h7, hf⟩
    have bz4 := bz.tfr hf (by decide)
    clear h6 hf bz z0 z1
    have bz := bz4
    clear bz4
    have z0 := bz.cell 0
    have z1 := bz.cell 1
    simp only [List.getElem?_cons_zero, List.getElem?_cons_succ] at z0 z1
    go_wp2_with fail
    go_region_held3 (fun w5 => w5.cell? ⟨Z, 0, none⟩ = some (.pointer (some ⟨B, 0, none⟩)) ∧ w5.cell? ⟨Z, 1, none⟩ = some (.pointer (some ⟨X, 0, none⟩)))
      (first | exact ⟨z0, z1⟩ | exact ⟨(bz4.cell 0).trans rfl, (bz4.cell 1).trans rfl⟩ | exact ⟨(bz5.cell 0).trans rfl, (bz5.cell 1).trans rfl⟩)
      (first
        | (go_at_call 42; refine (write_Z (h7.step (below_drewN w7 1)) (g2.out.dropped 1) 2 b false (by rfl) (Nat.le_of_ble_eq_true rfl)).mono ?_; rintro e w8 ⟨rfl, h8, hf⟩; have bz4 := (bz.drewN 1).tfr hf (by decide)))
    clear h7 hf bz z0 z1
    have bz := bz4
    clear bz4
    have z0 := bz.cell 0
    have z1 := bz.cell 1
    simp only [List.getElem?_cons_zero, List.getElem?_cons_succ] at z0 z1
    go_wp2_with fail
    go_region_held3 (fun w5 => w5.cell? ⟨Z, 0, none⟩ = some (.pointer (some ⟨B, 0, none⟩)) ∧ w5.cell? ⟨Z, 1, none⟩ = some (.pointer (some ⟨X, 0, none⟩)))
      (first | exact ⟨z0, z1⟩ | exact ⟨(bz4.cell 0).trans rfl, (bz4.cell 1).trans rfl⟩ | exact ⟨(bz5.cell 0).trans rfl, (bz5.cell 1).trans rfl⟩)
      (first
        | (go_at_call 43; refine (read_Z (h8.step (below_drewN w8 1)) (g2.out.dropped 1) 2 b true (by rfl) (by rfl)).mono ?_; rintro e w9 ⟨rfl, hb⟩; have h9 := (h8.step (below_drewN w8 1)).step hb; have bz4 := (bz.drewN 1).tfr (.of_below (ts := []) hb) (by simp)))
    clear hb
    clear h8 bz z0 z1
    have bz := bz4
    clear bz4
    have z0 := bz.cell 0
    have z1 := bz.cell 1
    simp only [List.getElem?_cons_zero, List.getElem?_cons_succ] at z0 z1
    go_wp2_with fail
    refine (known7 _).mono ?_
    rintro e w10 ⟨rfl, hbk⟩
    go_wp2_with fail
    go_ret
    exact ⟨rfl, (h9.step hbk).clk.below⟩
  · refine (commit_Z h5 1 (by decide) (by decide)).mono ?_
    rintro e w6 ⟨rfl, h6, hf⟩
    have bz4 := bz.tfr hf (by decide)
    clear h5 hf bz z0 z1
    have bz := bz4
    clear bz4
    have z0 := bz.cell 0
    have z1 := bz.cell 1
    simp only [List.getElem?_cons_zero, List.getElem?_cons_succ] at z0 z1
    go_wp2_with fail
    go_region_held3 (fun w5 => w5.cell? ⟨Z, 0, none⟩ = some (.pointer (some ⟨B, 0, none⟩)) ∧ w5.cell? ⟨Z, 1, none⟩ = some (.pointer (some ⟨X, 0, none⟩)))
      (first | exact ⟨z0, z1⟩ | exact ⟨(bz4.cell 0).trans rfl, (bz4.cell 1).trans rfl⟩ | exact ⟨(bz5.cell 0).trans rfl, (bz5.cell 1).trans rfl⟩)
      (first
        | (go_at_call 43; refine (read_Z (h6.step (below_drewN w6 1)) (g2.out.committed 1) 2 0 false (by rfl) (by rfl)).mono ?_; rintro e w7 ⟨rfl, hb⟩; have h7 := (h6.step (below_drewN w6 1)).step hb; have bz4 := (bz.drewN 1).tfr (.of_below (ts := []) hb) (by simp)))
    clear hb
    clear h6 bz z0 z1
    have bz := bz4
    clear bz4
    have z0 := bz.cell 0
    have z1 := bz.cell 1
    simp only [List.getElem?_cons_zero, List.getElem?_cons_succ] at z0 z1
    go_wp2_with fail
    go_region_held3 (fun w5 => w5.cell? ⟨Z, 0, none⟩ = some (.pointer (some ⟨B, 0, none⟩)) ∧ w5.cell? ⟨Z, 1, none⟩ = some (.pointer (some ⟨X, 0, none⟩)))
      (first | exact ⟨z0, z1⟩ | exact ⟨(bz4.cell 0).trans rfl, (bz4.cell 1).trans rfl⟩ | exact ⟨(bz5.cell 0).trans rfl, (bz5.cell 1).trans rfl⟩)
      (first
        | (go_at_call 42; refine (write_no_Z (h7.step (below_drewN w7 1)) (g2.out.committed 1) 2 b false (by rfl)).mono ?_; rintro e w8 ⟨rfl, hb⟩; have h8 := (h7.step (below_drewN w7 1)).step hb; have bz4 := (bz.drewN 1).tfr (.of_below (ts := []) hb) (by simp))
        | (go_at_call 40; refine (known7 _).mono ?_; rintro e w9 ⟨rfl, hbk⟩; have h9 := h8.step hbk; have bz5 := bz4.tfr (.of_below (ts := []) hbk) (by simp)))
    go_wp2_with fail
    go_ret
    exact ⟨rfl, h9.clk.below⟩
end Go.Proofs.Ytdgojfjaooindaa
