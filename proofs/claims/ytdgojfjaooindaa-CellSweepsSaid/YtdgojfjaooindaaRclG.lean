/-
  The reference's cell beside its clock: Spare, Sweep; all contracts over both.
-/
import Derived.Test.YtdgojfjaooindaaRclF
namespace Go.Proofs.Ytdgojfjaooindaa.Rcl
open Go.RowKit Go.Proofs.Lig

set_option maxRecDepth 100000 in
theorem r_spareB (w w0 : World) (N X : Nat) (A : Option Addr) (cap : Nat) (l : List (Ver Int)) (B : Nat) (c : Clk) (h : CelA w X A cap l) (hc : RefN N w0 w B c) (p : Ver Int → Bool) (hp : ∀ i y, l[i]? = some y → p y = rspare c l i y) (v : Bool) (hv : decide (0 ≤ place p l) = v) :
    Calls Try.prog 66 #[.pointer (some ⟨X, 0, none⟩), .pointer (some ⟨B, 0, none⟩)] w fun e w' => e = .returned (.bool v) ∧ RefN N w0 w' B c ∧ TFr refT w w' := by
  have HS := hid (r_spare w w0 N X A cap l B c h hc p hp)
  have HV := hid hv
  clear h hc hp hv
  obtain ⟨q, hq⟩ : ∃ q, place p l = q := ⟨_, rfl⟩
  rw [hq] at HS HV
  clear hq
  go_enter Try.func66, Try.ntmps66
  go_wp2_with fail
  refine HS.out.mono ?_
  rintro e w1 ⟨rfl, h1, h2⟩
  have H1 := hid h1
  have H2 := hid h2
  clear h1 h2
  go_wp2_with fail
  go_ret
  exact ⟨by rw [← HV.out]; rfl, H1.out, H2.out⟩

set_option maxRecDepth 100000 in
theorem r_sweep_not (w w0 : World) (N X : Nat) (A : Option Addr) (cap : Nat) (l : List (Ver Int)) (B : Nat) (c : Clk) (h : CelA w X A cap l) (hc : RefN N w0 w B c) (p : Ver Int → Bool) (hp : ∀ i y, l[i]? = some y → p y = rspare c l i y) (hv : place p l = -1) :
    Calls Try.prog 67 #[.pointer (some ⟨X, 0, none⟩), .pointer (some ⟨B, 0, none⟩)] w fun e w' => e = .returned (.bool false) ∧ RefN N w0 w' B c ∧ TFr refT w w' := by
  have HS := hid (r_spare w w0 N X A cap l B c h hc p hp)
  rw [hv] at HS
  clear h hc hp hv
  go_enter Try.func67, Try.ntmps67
  go_wp2_with fail
  refine HS.out.mono ?_
  rintro e w1 ⟨rfl, h1, h2⟩
  have H1 := hid h1
  have H2 := hid h2
  clear h1 h2
  go_wp2_with fail
  go_ret
  exact ⟨by rfl, H1.out, H2.out⟩

set_option maxRecDepth 100000 in
set_option maxHeartbeats 1000000 in
theorem r_sweep (w w0 : World) (N X : Nat) (A : Option Addr) (cap : Nat) (l : List (Ver Int)) (B : Nat) (c : Clk) (h : CelA w X A cap l) (hc : RefN N w0 w B c) (hn : l.length ≤ 1000000) (p : Ver Int → Bool) (hp : ∀ i y, l[i]? = some y → p y = rspare c l i y) (i : Nat) (hi : i < l.length) (hv : place p l = (i : Int)) :
    Calls Try.prog 67 #[.pointer (some ⟨X, 0, none⟩), .pointer (some ⟨B, 0, none⟩)] w fun e w' => e = .returned (.bool true) ∧
      ∃ w1 A' cap', RefN N w0 w1 B c ∧ TFr refT w w1 ∧ CelA w' X A' cap' (l.eraseIdx i) ∧ Sub (X :: (Value.slice A' (l.eraseIdx i).length cap').ownBlock.toList) [X] w1.heap.size ∧ Fr [X] w1 w' := by
  have HS := hid (r_spare w w0 N X A cap l B c h hc p hp)
  rw [hv] at HS
  have HH := hid h
  have HN := hid hn
  have HI := hid hi
  clear h hc hp hv hn hi
  obtain ⟨g, rfl, _⟩ := HH.out.form (by have := HI.out; omega)
  go_enter Try.func67, Try.ntmps67
  go_wp2_with fail
  refine HS.out.mono ?_
  rintro e w1 ⟨rfl, h1, h2⟩
  have H1 := hid h1
  have H2 := hid h2
  have HA := hid (HH.out.tfr h2 (by decide))
  clear h1 h2 HS
  have hx := HA.out.blk.cell 0
  simp only [List.getElem?_cons_zero] at hx
  have hln := HA.out.len
  have HC := hid (r_without w1 g cap l i HA.out.own HI.out HN.out)
  go_wp2_with fail
  refine HC.out.mono ?_
  rintro e w2 ⟨A', cap', rfl, ho, hb⟩
  have B2 := HA.out.blk.below hb HA.out.blk.lt
  have d0 := B2.cell 0
  have e0 := B2.frozen 0
  simp only [List.getElem?_cons_zero] at d0
  have HB2 := hid B2
  have HO := hid ho
  have HB := hid hb
  clear B2 ho hb HC hx
  go_wp2_with fail
  go_ret
  have hlen : (l.eraseIdx i).length = l.length - 1 := by rw [List.length_eraseIdx, if_pos HI.out]
  have ho0 : w2.ownsRow 0 109 3 (.slice A' (l.length - 1) cap') (l.length - 1) (encVers (l.eraseIdx i)) := by
    refine ⟨HO.out.1, ?_⟩
    rcases HO.out.2 with h2 | ⟨g, cap, cur, hv, _, r⟩
    · exact .inl h2
    · exact .inr ⟨g, cap, cur, hv, Nat.zero_le _, r⟩
  have hne := own_ne ho0 HB2.out (by decide)
  have hset := HB2.out.set_ 0 (.slice A' (l.length - 1) cap')
  simp only [List.set_cons_zero] at hset
  refine ⟨by rfl, w1, A', cap', H1.out, H2.out, ⟨by rw [hlen]; exact hset, by rw [hlen]; exact own_far ho0 hne _⟩, ?_, ((Fr.refl _ w1).trans_same (Fr.of_below HB.out (Nat.le_refl _))).setCell (.inl (by simp)) _⟩
  intro q hq
  rcases List.mem_cons.1 hq with rfl | hq
  · exact .inl (by simp)
  · rw [hlen] at hq
    exact .inr (HO.out.lt q (by simpa using hq)).1

/-- The reference's clock c lies in block D and its cell l in block Y, all of it at N or beyond, of a world that has not turned what lay below N. -/
structure RC (N : Nat) (w0 w : World) (D : Nat) (c : Clk) (Y : Nat) (l : List (Ver Int)) : Prop where
  clk : RefN N w0 w D c
  cel : ∃ S, CelS w Y S l ∧ ∀ k ∈ S, N ≤ k

abbrev rT : List TypeId := refT ++ celT

section
variable {N : Nat} {w0 w w' w1 : World} {D : Nat} {c c' : Clk} {Y : Nat} {l l' : List (Ver Int)}
theorem RC.size (h : RC N w0 w D c Y l) : N ≤ w.heap.size := Nat.le_trans h.clk.lo h.clk.below.size
theorem RC.keep {ts : List TypeId} (h : RC N w0 w D c Y l) (hf : TFr ts w w') (hb : Below N w0 w') (hd : ∀ t ∈ rT, t ∉ ts) : RC N w0 w' D c Y l := by
  obtain ⟨hc, S, hl, hs⟩ := h
  exact ⟨⟨hc.lo, hb, by obtain ⟨S', h1, h2⟩ := hc.clk; exact ⟨S', h1.tfr hf (fun t ht => hd t (List.mem_append_left _ ht)), h2⟩⟩, S, hl.tfr hf (fun t ht => hd t (List.mem_append_right _ ht)), hs⟩
theorem RC.step (h : RC N w0 w D c Y l) (hb : Below w.heap.size w w') : RC N w0 w' D c Y l :=
  h.keep (ts := []) (.of_below hb) (h.clk.below.trans (hb.mono h.size)) (by simp)
theorem RC.ofClk (h : RC N w0 w D c Y l) (hc : RefN N w0 w' D c') (hf : TFr refT w w') : RC N w0 w' D c' Y l := by
  obtain ⟨_, S, hl, hs⟩ := h
  exact ⟨hc, S, hl.tfr hf (by decide), hs⟩
theorem RC.yN (h : RC N w0 w D c Y l) : N ≤ Y := by
  obtain ⟨_, S, ⟨A, cap, hl, rfl⟩, hs⟩ := h
  exact hs Y (by simp)
/-- .. where a call has turned the clock's blocks first and the cell's own behind that. -/
theorem RC.ofCel (hc : RefN N w0 w1 D c) (hf1 : TFr refT w w1) {A' : Option Addr} {cap' : Nat} (hl' : CelA w' Y A' cap' l') {S : List Nat} (hS : ∀ k ∈ S, N ≤ k ∧ ∃ cs t fr, w1.heap[k]? = some (.cells cs t fr) ∧ t ∈ celT)
    (hsub : Sub (Y :: (Value.slice A' l'.length cap').ownBlock.toList) S w1.heap.size) (hf : Fr S w1 w') : RC N w0 w' D c Y l' ∧ TFr rT w w' := by
  have hsz : N ≤ w1.heap.size := Nat.le_trans hc.lo hc.below.size
  have ht : TFr celT w1 w' := .of_fr hf (fun k hk => (hS k hk).2)
  refine ⟨⟨hc.tfr ht (hf.below hsz (fun k hk => (hS k hk).1)) (by decide), _, ⟨A', cap', hl', rfl⟩, fun k hk => ?_⟩, (hf1.mono (by decide)).trans (ht.mono (by decide))⟩
  rcases hsub k hk with h1 | h1
  · exact (hS k h1).1
  · exact Nat.le_trans hsz h1
theorem RC.own_block (h : RC N w0 w D c Y l) (hf1 : TFr refT w w1) : ∀ k ∈ [Y], N ≤ k ∧ ∃ cs t fr, w1.heap[k]? = some (.cells cs t fr) ∧ t ∈ celT := by
  intro k hk
  have hk : k = Y := by simpa using hk
  subst hk
  refine ⟨h.yN, ?_⟩
  obtain ⟨_, S, ⟨A, cap, hl, rfl⟩, hs⟩ := h
  exact ⟨_, _, _, (hl.tfr hf1 (by decide)).blk, by simp⟩

theorem check_R (h : RC N w0 w D c Y l) (t : Int) (v : Int) (hv : (if Cel.blocked c l t then 6 else 0) = v) :
    Calls Try.prog 64 #[.pointer (some ⟨Y, 0, none⟩), .pointer (some ⟨D, 0, none⟩), .int .i64 t] w fun e w' => e = .returned (.int .i64 v) ∧ RC N w0 w' D c Y l ∧ TFr rT w w' := by
  obtain ⟨S, ⟨A, cap, hl, rfl⟩, hs⟩ := h.cel
  exact (r_check hl h.clk t v hv).mono fun _ _ ⟨he, h1, h2⟩ => ⟨he, h.ofClk h1 h2, h2.mono (by decide)⟩
theorem write_no_R (h : RC N w0 w D c Y l) (t v : Int) (gone : Bool) (hb : Cel.blocked c l t = true) :
    Calls Try.prog 65 #[.pointer (some ⟨Y, 0, none⟩), .pointer (some ⟨D, 0, none⟩), .int .i64 t, .int .i64 v, .bool gone] w fun e w' => e = .returned (.int .i64 6) ∧ RC N w0 w' D c Y l ∧ TFr rT w w' := by
  obtain ⟨S, ⟨A, cap, hl, rfl⟩, hs⟩ := h.cel
  exact (r_write_clash w w0 N Y D A cap l c t v gone hl h.clk hb).mono fun _ _ ⟨he, h1, h2⟩ => ⟨he, h.ofClk h1 h2, h2.mono (by decide)⟩
theorem write_R (h : RC N w0 w D c Y l) (t v : Int) (gone : Bool) (hb : Cel.blocked c l t = false) (hn : l.length ≤ 1000000) :
    Calls Try.prog 65 #[.pointer (some ⟨Y, 0, none⟩), .pointer (some ⟨D, 0, none⟩), .int .i64 t, .int .i64 v, .bool gone] w fun e w' => e = .returned (.int .i64 0) ∧ RC N w0 w' D c Y (Cel.written l t v gone) ∧ TFr rT w w' := by
  obtain ⟨S, ⟨A, cap, hl, rfl⟩, hs⟩ := h.cel
  refine (r_write_go w Y (some ⟨D, 0, none⟩) A cap l t v gone (fun w' => RefN N w0 w' D c) hl hn ((r_check hl h.clk t 0 (by rw [hb]; rfl)).mono fun _ _ ⟨he, h1, h2⟩ => ⟨he, h2, h1⟩)).mono ?_
  rintro e w' ⟨rfl, w1, A', cap', ht, hc, hl', hsub, hf⟩
  obtain ⟨r1, r2⟩ := RC.ofCel hc ht hl' (h.own_block ht) hsub hf
  exact ⟨rfl, r1, r2⟩
theorem undo_R (h : RC N w0 w D c Y l) (hn : l.length ≤ 1000000) {c0 : Clk} (hi : Inv c0 l) (t : Int) :
    Calls Try.prog 63 #[.pointer (some ⟨Y, 0, none⟩), .int .i64 t] w fun e w' => (∃ u, e = .returned u) ∧ RC N w0 w' D c Y (Cel.undone l t) ∧ TFr rT w w' := by
  obtain ⟨S, ⟨A, cap, hl, rfl⟩, hs⟩ := h.cel
  have ht := CelS.typed ⟨A, cap, hl, rfl⟩
  refine (r_undo w Y A cap l t hl hn (fun i y hy hw => hi.undo_eq hy hw)).mono ?_
  rintro e w' ⟨he, A', cap', hl', hsub, hf⟩
  obtain ⟨r1, r2⟩ := RC.ofCel h.clk (TFr.refl _ _) hl' (S := Y :: (Value.slice A l.length cap).ownBlock.toList) (fun k hk => ⟨hs k hk, ht k hk⟩) hsub (hf.mono fun k hk => .inl (by simp at hk; simp [hk]))
  exact ⟨he, r1, r2⟩
theorem spareB_R (h : RC N w0 w D c Y l) (hi : Inv c l) (v : Bool) (hv : decide (0 ≤ place (Cel.isSpare c l) l) = v) :
    Calls Try.prog 66 #[.pointer (some ⟨Y, 0, none⟩), .pointer (some ⟨D, 0, none⟩)] w fun e w' => e = .returned (.bool v) ∧ RC N w0 w' D c Y l ∧ TFr rT w w' := by
  obtain ⟨S, ⟨A, cap, hl, rfl⟩, hs⟩ := h.cel
  exact (r_spareB w w0 N Y A cap l D c hl h.clk _ (fun i y hy => hi.spare_eq hy) v hv).mono fun _ _ ⟨he, h1, h2⟩ => ⟨he, h.ofClk h1 h2, h2.mono (by decide)⟩
theorem sweep_no_R (h : RC N w0 w D c Y l) (hi : Inv c l) (hv : place (Cel.isSpare c l) l = -1) :
    Calls Try.prog 67 #[.pointer (some ⟨Y, 0, none⟩), .pointer (some ⟨D, 0, none⟩)] w fun e w' => e = .returned (.bool false) ∧ RC N w0 w' D c Y l ∧ TFr rT w w' := by
  obtain ⟨S, ⟨A, cap, hl, rfl⟩, hs⟩ := h.cel
  exact (r_sweep_not w w0 N Y A cap l D c hl h.clk _ (fun i y hy => hi.spare_eq hy) hv).mono fun _ _ ⟨he, h1, h2⟩ => ⟨he, h.ofClk h1 h2, h2.mono (by decide)⟩
theorem sweep_R (h : RC N w0 w D c Y l) (hi : Inv c l) (hn : l.length ≤ 1000000) (i : Nat) (hv : place (Cel.isSpare c l) l = (i : Int)) :
    Calls Try.prog 67 #[.pointer (some ⟨Y, 0, none⟩), .pointer (some ⟨D, 0, none⟩)] w fun e w' => e = .returned (.bool true) ∧ RC N w0 w' D c Y (Cel.swept c l) ∧ TFr rT w w' := by
  obtain ⟨S, ⟨A, cap, hl, rfl⟩, hs⟩ := h.cel
  obtain ⟨hlt, hsw⟩ := swept_erase hv
  refine (r_sweep w w0 N Y A cap l D c hl h.clk hn _ (fun i y hy => hi.spare_eq hy) i hlt hv).mono ?_
  rintro e w' ⟨rfl, w1, A', cap', hc, ht, hl', hsub, hf⟩
  rw [← hsw] at hl' hsub
  obtain ⟨r1, r2⟩ := RC.ofCel hc ht hl' (h.own_block ht) hsub hf
  exact ⟨rfl, r1, r2⟩
theorem read_R (h : RC N w0 w D c Y l) (t : Int) (v : Int) (ok : Bool) (hv : (Cel.lastBy (c.sees t) l).getD 0 = v) (hok : (Cel.lastBy (c.sees t) l).isSome = ok) :
    Calls Try.prog 72 #[.pointer (some ⟨Y, 0, none⟩), .pointer (some ⟨D, 0, none⟩), .int .i64 t] w fun e w' => e = .returned (.tuple #[.int .i64 v, .bool ok]) ∧ w = w' := by
  obtain ⟨S, ⟨A, cap, hl, rfl⟩, hs⟩ := h.cel
  rw [← hv, ← hok]
  exact r_read w w0 N Y A cap l D c t hl h.clk
end
end Go.Proofs.Ytdgojfjaooindaa.Rcl
