/-
  The contract of ligaturelaw7's world.alike: both are alike.
-/
import Derived.Test.YtdgojfjaooindaaAlikeA
namespace Go.Proofs.Ytdgojfjaooindaa
open Go.RowKit Go.Proofs.Lig

section
variable {N : Nat} {w0 w w' : World} {Z B X D Y : Nat} {n : Int} {c : Clk} {l : List (Ver Int)}
theorem ZW.keep {ts : List TypeId} {d : Clk} {m : List (Ver Int)} (h : ZW N w0 w Z B X D Y n c l d m) (hf : TFr ts w w') (hb : Below N w0 w') (hz : 68 ∉ ts) (hp : ∀ t ∈ pT, t ∉ ts) (hr : ∀ t ∈ Rcl.rT, t ∉ ts) : ZW N w0 w' Z B X D Y n c l d m :=
  ⟨h.zN, h.blk.tfr hf hz, h.prog.keep hf hb hp, h.ref.keep hf hb hr⟩

theorem z_spareB {d : Clk} {m : List (Ver Int)} (h : ZW N w0 w Z B X D Y n c l d m) (hg : c.Good) (v : Bool) (hv : decide (0 ≤ place (Cel.isSpare c l) l) = v) :
    Calls Try.prog 49 #[.pointer (some ⟨X, 0, none⟩), .pointer (some ⟨B, 0, none⟩)] w fun e w' => e = .returned (.bool v) ∧ ZW N w0 w' Z B X D Y n c l d m ∧ TFr refT w w' := by
  obtain ⟨S, ⟨A, cap, hl, rfl⟩, hs⟩ := h.prog.cel
  obtain ⟨_, _, SC, hc, _⟩ := h.prog.clk
  exact (spareB_S w X A cap l B SC c hl hc hg v hv).mono fun _ _ ⟨he, hb⟩ => ⟨he, h.step hb, .of_below hb⟩
theorem y_spareB {d : Clk} {m : List (Ver Int)} (h : ZW N w0 w Z B X D Y n c l d m) (hi : Inv d m) (v : Bool) (hv : decide (0 ≤ place (Cel.isSpare d m) m) = v) :
    Calls Try.prog 66 #[.pointer (some ⟨Y, 0, none⟩), .pointer (some ⟨D, 0, none⟩)] w fun e w' => e = .returned (.bool v) ∧ ZW N w0 w' Z B X D Y n c l d m ∧ TFr refT w w' := by
  obtain ⟨S, ⟨A, cap, hl, rfl⟩, hs⟩ := h.ref.cel
  exact (Rcl.r_spareB w w0 N Y A cap m D d hl h.ref.clk _ (fun i y hy => hi.spare_eq hy) v hv).mono fun _ _ ⟨he, h1, h2⟩ => ⟨he, h.onRef (h.ref.ofClk h1 h2) (h2.mono (by decide)), h2⟩

set_option maxRecDepth 100000 in
set_option maxHeartbeats 4000000 in
theorem alike_any (h : ZW N w0 w Z B X D Y (c.l.length : Int) c l c l) (hF : Fine (c, l)) (hc : c.l.length ≤ 200) :
    Calls Try.prog 53 #[.pointer (some ⟨Z, 0, none⟩)] w fun e w' => e = .returned (.bool true) ∧ ZW N w0 w' Z B X D Y (c.l.length : Int) c l c l := by
  have HG : Hid c.Good := hF.good
  have HI : Hid (Inv c l) := hF.inv
  have hb0 : Below w.heap.size w (w.alloc (.cells #[.pointer (some ⟨Z, 0, none⟩)] 61)) := (Below.refl _ _).alloc (Nat.le_refl _) _
  have H := hid (h.step hb0)
  have HW : Hid (Blk (w.alloc (.cells #[.pointer (some ⟨Z, 0, none⟩)] 61)) w.heap.size 61 [.pointer (some ⟨Z, 0, none⟩)]) := Blk.new w _ _
  obtain ⟨sp, hsp⟩ : ∃ sp, decide (0 ≤ place (Cel.isSpare c l) l) = sp := ⟨_, rfl⟩
  have HSP := hid hsp
  obtain ⟨SY, ⟨A, cap, hY, rfl⟩, _⟩ := H.out.ref.cel
  have hln := hY.len
  have HY := hid hY.blk
  obtain ⟨nc, hnc⟩ : ∃ nc : Nat, c.l.length = nc := ⟨_, rfl⟩
  rw [hnc] at H hc ⊢
  clear h hF hb0 hsp hY hnc
  go_enter Try.func53, Try.ntmps53
  go_wp2_with fail
  go_region_held3 (fun w' => w'.cell? ⟨w.heap.size, 0, none⟩ = some (.pointer (some ⟨Z, 0, none⟩)) ∧ w'.cell? ⟨Y, 0, none⟩ = some (.slice A l.length cap) ∧ w'.cell? ⟨Z, 0, none⟩ = some (.pointer (some ⟨B, 0, none⟩)) ∧ w'.cell? ⟨Z, 1, none⟩ = some (.pointer (some ⟨X, 0, none⟩)) ∧ w'.cell? ⟨Z, 2, none⟩ = some (.pointer (some ⟨D, 0, none⟩)) ∧ w'.cell? ⟨Z, 3, none⟩ = some (.pointer (some ⟨Y, 0, none⟩)) ∧ w'.cell? ⟨Z, 4, none⟩ = some (.int .i64 (nc : Int)))
    (first
      | exact ⟨HW.out.cell 0, HY.out.cell 0, H.out.blk.cell 0, H.out.blk.cell 1, H.out.blk.cell 2, H.out.blk.cell 3, H.out.blk.cell 4⟩
      | exact ⟨(HW.out.tfr ta (by decide)).cell 0, (HY.out.tfr ta (by decide)).cell 0, qa.blk.cell 0, qa.blk.cell 1, qa.blk.cell 2, qa.blk.cell 3, qa.blk.cell 4⟩
      | exact ⟨((HW.out.tfr ta (by decide)).tfr tb (by decide)).cell 0, ((HY.out.tfr ta (by decide)).tfr tb (by decide)).cell 0, qb.blk.cell 0, qb.blk.cell 1, qb.blk.cell 2, qb.blk.cell 3, qb.blk.cell 4⟩
      | go_keep)
    (first
      | (go_at_call 47; refine (z_len (H.out.drewN 1) _ rfl).mono ?_; rintro e wl ⟨rfl, rfl⟩)
      | (go_at_call 49; refine (z_spareB (H.out.drewN 1) HG.out sp HSP.out).mono ?_; rintro e wa ⟨rfl, qa, ta⟩)
      | (go_at_call 66; refine (y_spareB qa HI.out sp HSP.out).mono ?_; rintro e wb ⟨rfl, qb, tb⟩))
  have H1 := hid qb
  have HW1 : Hid (Blk wb w.heap.size 61 [.pointer (some ⟨Z, 0, none⟩)]) := (HW.out.tfr ta (by decide)).tfr tb (by decide)
  clear qa qb ta tb H HW HY HSP
  have x0 := HW1.out.cell 0
  have x4 := H1.out.blk.cell 4
  simp only [List.getElem?_cons_zero, List.getElem?_cons_succ] at x0 x4
  go_wp2_with fail
  go_loopw [3] (fun i wr => ∃ t : Nat, 1 ≤ t ∧ t ≤ nc + 1 ∧ i = .int .i64 (t : Int) ∧ Hid (ZW N w0 wr Z B X D Y (nc : Int) c l c l) ∧ Hid (Blk wr w.heap.size 61 [.pointer (some ⟨Z, 0, none⟩)])) (fun i _ => nc + 1 - (intOf i).toNat)
  case atStart => exact ⟨1, Nat.le_refl _, by omega, rfl, H1, HW1⟩
  case round =>
    obtain ⟨t, ht1, htn, rfl, HR, HWR⟩ := hrel
    clear H1 HW1 x0 x4
    have x0 := HWR.out.cell 0
    have x2 := HR.out.blk.cell 2
    have x4 := HR.out.blk.cell 4
    simp only [List.getElem?_cons_zero, List.getElem?_cons_succ] at x0 x2 x4
    by_cases hlt : t ≤ nc
    · obtain ⟨lv, hlv⟩ : ∃ lv, c.live (t : Int) = lv := ⟨_, rfl⟩
      have HLV := hid hlv
      clear hlv
      cases lv
      · go_wp2_with fail
        refine (y_live HR.out _ _ HLV.out).mono ?_
        rintro e wx ⟨rfl, rfl⟩
        go_wp2_with fail
        go_roundw
        case rel => exact ⟨t + 1, by omega, by omega, by go_num, HR, HWR⟩
        case measure => simp [intOf]; omega
      · obtain ⟨v, hv⟩ : ∃ v, (Cel.lastBy (c.sees (t : Int)) l).getD 0 = v := ⟨_, rfl⟩
        obtain ⟨ok, hok⟩ : ∃ ok, (Cel.lastBy (c.sees (t : Int)) l).isSome = ok := ⟨_, rfl⟩
        obtain ⟨er, her⟩ : ∃ er : Int, (if Cel.blocked c l (t : Int) then 6 else 0) = er := ⟨_, rfl⟩
        have HV := hid hv
        have HOK := hid hok
        have HER := hid her
        clear hv hok her
        go_wp2_with fail
        refine (y_live HR.out _ _ HLV.out).mono ?_
        rintro e wx ⟨rfl, rfl⟩
        clear HLV
        go_wp2_with fail
        go_region_held3 (fun w' => w'.cell? ⟨w.heap.size, 0, none⟩ = some (.pointer (some ⟨Z, 0, none⟩)) ∧ w'.cell? ⟨Z, 0, none⟩ = some (.pointer (some ⟨B, 0, none⟩)) ∧ w'.cell? ⟨Z, 1, none⟩ = some (.pointer (some ⟨X, 0, none⟩)))
          (first
            | exact ⟨HWR.out.cell 0, HR.out.blk.cell 0, HR.out.blk.cell 1⟩
            | exact ⟨(HWR.out.tfr ta (by decide)).cell 0, qa.blk.cell 0, qa.blk.cell 1⟩
            | go_keep)
          (first
            | (go_at_call 43; refine (z_read (HR.out.drewN 1) HG.out _ v ok HV.out HOK.out).mono ?_; rintro e wa ⟨rfl, qa, ta⟩))
        have H2 := hid qa
        have HW2 : Hid (Blk wa w.heap.size 61 [.pointer (some ⟨Z, 0, none⟩)]) := HWR.out.tfr ta (by decide)
        clear qa ta HR HWR x0 x2 x4
        go_wp2_with fail
        go_region_held3 (fun w' => w'.cell? ⟨w.heap.size, 0, none⟩ = some (.pointer (some ⟨Z, 0, none⟩)) ∧ w'.cell? ⟨Z, 2, none⟩ = some (.pointer (some ⟨D, 0, none⟩)) ∧ w'.cell? ⟨Z, 3, none⟩ = some (.pointer (some ⟨Y, 0, none⟩)))
          (first
            | exact ⟨HW2.out.cell 0, H2.out.blk.cell 2, H2.out.blk.cell 3⟩
            | go_keep)
          (first
            | (go_at_call 72; refine (y_read (H2.out.drewN 1) _ v ok HV.out HOK.out).mono ?_; rintro e wb ⟨rfl, rfl⟩))
        have H3 := hid (H2.out.drewN 1)
        have HW3 := hid (HW2.out.drewN 1)
        clear H2 HW2
        go_wp2_with fail
        go_region_held3 (fun w' => w'.cell? ⟨w.heap.size, 0, none⟩ = some (.pointer (some ⟨Z, 0, none⟩)) ∧ w'.cell? ⟨Z, 0, none⟩ = some (.pointer (some ⟨B, 0, none⟩)) ∧ w'.cell? ⟨Z, 1, none⟩ = some (.pointer (some ⟨X, 0, none⟩)) ∧ w'.cell? ⟨Z, 2, none⟩ = some (.pointer (some ⟨D, 0, none⟩)) ∧ w'.cell? ⟨Z, 3, none⟩ = some (.pointer (some ⟨Y, 0, none⟩)))
          (first
            | exact ⟨HW3.out.cell 0, H3.out.blk.cell 0, H3.out.blk.cell 1, H3.out.blk.cell 2, H3.out.blk.cell 3⟩
            | exact ⟨(HW3.out.tfr tc (by decide)).cell 0, qc.blk.cell 0, qc.blk.cell 1, qc.blk.cell 2, qc.blk.cell 3⟩
            | exact ⟨((HW3.out.tfr tc (by decide)).tfr td (by decide)).cell 0, qd.blk.cell 0, qd.blk.cell 1, qd.blk.cell 2, qd.blk.cell 3⟩
            | go_keep)
          (first
            | (go_at_call 44; refine (z_check (H3.out.drewN 1) HG.out _ er HER.out).mono ?_; rintro e wc ⟨rfl, qc, tc⟩)
            | (go_at_call 64; refine (y_check qc _ er HER.out).mono ?_; rintro e wd ⟨rfl, qd, td⟩))
        have H4 := hid qd
        have HW4 : Hid (Blk wd w.heap.size 61 [.pointer (some ⟨Z, 0, none⟩)]) := (HW3.out.tfr tc (by decide)).tfr td (by decide)
        clear qc tc qd td H3 HW3 HV HOK HER
        go_wp2_with fail
        go_roundw
        case rel => exact ⟨t + 1, by omega, by omega, by go_num, H4, HW4⟩
        case measure => simp [intOf]; omega
    · have hgt : nc < t := by omega
      obtain ⟨SX, ⟨A1, cap1, hX, rfl⟩, _⟩ := HR.out.prog.cel
      obtain ⟨SY, ⟨A2, cap2, hY2, rfl⟩, _⟩ := HR.out.ref.cel
      have hln2 := hY2.len
      have x1 := HR.out.blk.cell 1
      simp only [List.getElem?_cons_zero, List.getElem?_cons_succ] at x1
      have hB7 : Below wr.heap.size wr ((wr.alloc (.cells #[.int .i64 0] 3)).alloc (.cells #[.bool true] 4)) := ((Below.refl _ _).alloc (Nat.le_refl _) _).alloc (by simp) _
      have H7 := hid (HR.out.step hB7)
      have HW7 := hid (HWR.out.below hB7 HWR.out.lt)
      have HK7 : Hid (Blk ((wr.alloc (.cells #[.int .i64 0] 3)).alloc (.cells #[.bool true] 4)) wr.heap.size 3 [.int .i64 0]) := (Blk.new wr _ _).alloc _
      have HG7 : Hid (Blk ((wr.alloc (.cells #[.int .i64 0] 3)).alloc (.cells #[.bool true] 4)) (wr.heap.size + 1) 4 [.bool true]) := by
        have := Blk.new (wr.alloc (.cells #[.int .i64 0] 3)) 4 [.bool true]
        rw [World.size_alloc] at this
        exact this
      have HX7 := hid (hX.below hB7)
      have HO7 : Hid (Obs ((wr.alloc (.cells #[.int .i64 0] 3)).alloc (.cells #[.bool true] 4)) w.heap.size Z B X D Y (nc : Int) A2 cap2 l) := ⟨HW7.out, H7.out.blk, hY2.below hB7⟩
      have HE7 := hid (each_alike _ wr.heap.size w.heap.size (wr.heap.size + 1) Z B X D Y (nc : Int) A2 A1 cap2 cap1 l HX7.out HO7.out HK7.out HG7.out)
      have HN7 : Hid (N ≤ wr.heap.size) := HR.out.size
      have v0 := HW7.out.cell 0
      have v1 := H7.out.blk.cell 1
      simp only [List.getElem?_cons_zero, List.getElem?_cons_succ] at v0 v1
      clear hX hY2 hB7 HR HWR HX7 x1 x2
      go_wp2_with fail
      refine HE7.out.mono ?_
      rintro e w8 ⟨⟨_, rfl⟩, ⟨k, hk, bk, hgn⟩, bg, bf⟩
      have HKA := hid bk
      have HGA := hid bg
      have HFA := hid bf
      have HGN := hid hgn
      clear bk bg bf hgn v0 v1 x0 x4 HE7
      generalize (wr.alloc (.cells #[.int .i64 0] 3)).alloc (.cells #[.bool true] 4) = w7 at *
      generalize hK : wr.heap.size = K at *
      go_wp2_with fail
      go_loopw [] (fun wr => ∃ q : Nat, k ≤ q ∧ q ≤ l.length ∧ Hid (Blk wr K 3 [.int .i64 (q : Int)]) ∧ Hid (Fr [K, K + 1] w7 wr) ∧ Hid (Blk wr (K + 1) 4 [.bool true])) (fun wr => l.length - natAt wr ⟨K, 0, none⟩)
      case atStart => exact ⟨k, Nat.le_refl _, hk, HKA, HFA, HGA⟩
      case round =>
        obtain ⟨q, hkq, hql, HQ, HF, HGQ⟩ := hrel
        have HOQ := hid (HO7.out.tfr (tfr_kg HK7.out HG7.out HF.out))
        have k0 := HQ.out.cell 0
        have kf := HQ.out.frozen 0
        have kl := HQ.out.lt
        have g0 := HGQ.out.cell 0
        have v0 := HOQ.out.wb.cell 0
        have z3 := HOQ.out.z.cell 3
        have y0 := HOQ.out.y.blk.cell 0
        simp only [List.getElem?_cons_zero, List.getElem?_cons_succ] at k0 v0 z3 y0 g0
        by_cases hlt : q < l.length
        · obtain ⟨z, hz⟩ : ∃ z, l[q]? = some z := ⟨_, List.getElem?_eq_getElem (by omega)⟩
          obtain ⟨g, rfl, _⟩ := HOQ.out.y.form (by omega)
          obtain ⟨_, _, c2⟩ := Rcl.row_ver HOQ.out.y.own hz
          rw [HGN.out q z hkq hz] at c2
          have hq1 : (q : Int) < (l.length : Int) := by omega
          clear hz
          go_wp2_with fail
          go_quiet (fail)
          go_wp2_with fail
          have e1 : ((q + 1 : Nat) : Int) = (q : Int) + 1 := by omega
          have HK2 : Hid (∀ nq, Blk ((wr.drewN nq).setCell ⟨K, 0, none⟩ (.int .i64 ((q : Int) + 1))) K 3 [.int .i64 ((q + 1 : Nat) : Int)]) := fun nq => by rw [e1]; exact (HQ.out.drewN nq).set_ 0 _
          have HF2 : Hid (∀ nq, Fr [K, K + 1] w7 ((wr.drewN nq).setCell ⟨K, 0, none⟩ (.int .i64 ((q : Int) + 1)))) := fun nq => (HF.out.drewN nq).setCell (.inl (by simp)) _
          have HG2 : Hid (∀ nq, Blk ((wr.drewN nq).setCell ⟨K, 0, none⟩ (.int .i64 ((q : Int) + 1))) (K + 1) 4 [.bool true]) := fun nq => (HGQ.out.drewN nq).far (by simp) _
          clear e1
          go_roundw
          case rel => exact ⟨q + 1, by omega, by omega, HK2.out _, HF2.out _, HG2.out _⟩
          case measure =>
            rw [natAt_blk (HK2.out _), natAt_blk HQ.out]
            omega
        · obtain rfl : q = l.length := by omega
          have HEND : Hid (∀ nq, ZW N w0 (wr.drewN nq) Z B X D Y (nc : Int) c l c l) := fun nq => (H7.out.keep (tfr_kg HK7.out HG7.out HF.out) (H7.out.below.trans (HF.out.below H7.out.size (fun b hb => by
            have hN := HN7.out
            simp only [List.mem_cons, List.mem_nil_iff, or_false] at hb
            omega))) (by decide) (by decide) (by decide)).drewN nq
          go_wp2_with fail
          go_quiet (fail)
          go_wp2_with fail
          go_quiet (fail)
          go_wp2_with fail
          go_ret
          exact ⟨by simp, (HEND.out _).drewN _⟩
end
end Go.Proofs.Ytdgojfjaooindaa
