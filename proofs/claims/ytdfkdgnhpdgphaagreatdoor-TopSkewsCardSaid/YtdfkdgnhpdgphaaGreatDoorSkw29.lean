/-
  A store: DropNode, AddEdge.
-/
import Derived.Test.YtdfkdgnhpdgphaaGreatDoorSkw27
import Derived.Test.YtdfkdgnhpdgphaaGreatDoorSkw28
namespace Go.Proofs.YtdfkdgnhpdgphaaGreatDoor
open Go.RowKit Go.Proofs.Lig
attribute [local go_sem] run_store_float

section
variable {O : Nat → Prop} {w w' : World} {s : Nat} {p : StoP} {d : StoD}
set_option maxRecDepth 100000 in
theorem ints_one {w : World} {L : Nat} {n : Int} (h : Blk w L 3 [.int .i64 n]) : IntsIn w L [n] := ⟨h.lt, fun j m hj => by
  cases j with
  | zero => simp at hj; subst hj; exact h.cell 0
  | succ j => simp at hj⟩
set_option maxRecDepth 100000 in
theorem ints_two {w : World} {L : Nat} {n m : Int} (h : Blk w L 3 [.int .i64 n, .int .i64 m]) : IntsIn w L [n, m] := ⟨h.lt, fun j k hj => by
  match j, hj with
  | 0, hj => simp at hj; subst hj; exact h.cell 0
  | 1, hj => simp at hj; subst hj; exact h.cell 1
  | j + 2, hj => simp at hj⟩

set_option maxHeartbeats 4000000 in
set_option maxRecDepth 100000 in
theorem sto_dropNode (h : StoA O w s p d) (hO : NewO O w) (t : Int) (i : Nat) (l : List (Ver NodV)) (hl : d.ns[i]? = some l) (hlv : d.c.live t = true) (hok : (Cel.lastBy (d.c.sees t) l).isSome = true) (hn : l.length ≤ 1000000)
    (hco : Unseen d d.co t ((i : Int) + 1)) (hci : Unseen d d.ci t ((i : Int) + 1)) (b : Bool) (hb : Cel.blocked d.c l t = b) (hu : b = true → Untouched d t) :
    Calls Tryz.prog 130 #[pt s, .int .i64 t, .int .i64 ((i : Int) + 1)] w fun e w' => e = .returned (.int .i64 (if b then 6 else 0)) ∧ StoA O w' s p (if b then { d with c := d.c.dropped t } else { d with ns := d.ns.set i (Cel.written l t e0 true) }) ∧ FrO O w w' ∧ TFr stoT w w' := by
  have hti : ((i : Int) + 1).toNat - 1 = i := by omega
  have HL := hid (sto_isLive h t true hlv)
  have HR := hid (sto_reads h t ((i : Int) + 1) (by omega) l (by rw [hti]; exact hl) true hok)
  have HH := hid h
  have HO := hid hO
  have HLV := hid hlv
  have HLL := hid hl
  have HNN := hid hn
  have HCO := hid hco
  have HCI := hid hci
  have HB := hid hb
  have HU := hid hu
  have hi := (List.getElem?_eq_some_iff.1 hl).1
  have HI := hid hi
  clear h hO hl hlv hok hco hci hb hu hi hn
  go_enter Tryz.func130, Tryz.ntmps130
  go_wp2_with fail
  refine HL.out.mono ?_
  rintro e w1 ⟨rfl, rfl⟩
  go_wp2_with fail
  refine HR.out.mono ?_
  rintro e w1 ⟨rfl, b1⟩
  have H1 := hid (HH.out.below b1)
  have B1 := hid b1
  clear b1 HL HR
  go_wp2_with fail
  refine (sto_out H1.out t ((i : Int) + 1) HLV.out HCO.out).mono ?_
  rintro e w2 ⟨⟨A2, c2, rfl⟩, b2⟩
  have H2 := hid (H1.out.below b2)
  have B2 := hid (bstep B1.out (Nat.le_refl _) b2)
  clear b2 H1
  go_wp2_with fail
  refine (sto_in H2.out t ((i : Int) + 1) HLV.out HCI.out).mono ?_
  rintro e w3 ⟨⟨A3, c3, rfl⟩, b3⟩
  have H3 := hid (H2.out.below b3)
  have B3 := hid (bstep B2.out (Nat.le_refl _) b3)
  clear b3 H2 B1 B2
  have b4 := below_alloc w3 (.cells #[.int .i64 ((i : Int) + 1)] 3)
  have HM := hid (sto_may (H3.out.below b4) (HO.out.step (Nat.le_trans B3.out.size b4.size)) t w3.heap.size [i] (ints_one (Blk.new w3 3 [.int .i64 ((i : Int) + 1)])) (by simp) (by simpa using HI.out) b (by
    unfold barred
    rw [← HB.out]
    simp [HLL.out]) HU.out)
  have B4 := hid (bstep B3.out (Nat.le_refl _) b4)
  clear b4 H3 B3
  cases b
  · go_wp2_with fail
    refine HM.out.mono ?_
    rintro e w5 ⟨rfl, z1, z2, z3⟩
    have HP := hid (sto_puts z1 (HO.out.step (Nat.le_trans B4.out.size z2.size)) t i l HLL.out true HB.out HNN.out)
    have F5 := hid ((FrO.of_below B4.out).trans z2)
    have T5 := hid ((TFr.of_below (ts := stoT) B4.out).trans z3)
    clear z1 z2 z3 HM
    go_wp2_with fail
    refine HP.out.mono ?_
    rintro e w6 ⟨⟨u, rfl⟩, z1, z2, z3⟩
    have Z1 := hid z1
    have Z2 := hid (F5.out.trans z2)
    have Z3 := hid (T5.out.trans z3)
    clear z1 z2 z3 HP
    go_wp2_with fail
    go_ret
    exact ⟨rfl, Z1.out, Z2.out, Z3.out⟩
  · go_wp2_with fail
    refine HM.out.mono ?_
    rintro e w5 ⟨rfl, z1, z2, z3⟩
    have Z1 := hid z1
    have Z2 := hid ((FrO.of_below B4.out).trans z2)
    have Z3 := hid ((TFr.of_below (ts := stoT) B4.out).trans z3)
    clear z1 z2 z3 HM
    go_wp2_with fail
    go_ret
    exact ⟨rfl, Z1.out, Z2.out, Z3.out⟩

set_option maxHeartbeats 4000000 in
set_option maxRecDepth 100000 in
theorem sto_addEdge (h : StoA O w s p d) (hO : NewO O w) (t : Int) (v : EdgV) (hE : ∀ W, Calls Tryz.prog 217 #[edgVal v] W fun e w' => e = .returned (.bool true) ∧ Below W.heap.size W w') (i j : Nat) (hvi : v.src = (i : Int) + 1) (hvj : v.dst = (j : Int) + 1)
    (l : List (Ver NodV)) (hl : d.ns[i]? = some l) (m : List (Ver NodV)) (hm : d.ns[j]? = some m) (hlv : d.c.live t = true) (hok : (Cel.lastBy (d.c.sees t) l).isSome = true) (hokm : (Cel.lastBy (d.c.sees t) m).isSome = true) (hne : d.es.length < 32)
    (b : Bool) (hb : barred d t [i, j] = b) (hu : b = true → Untouched d t) (ht : b = false → TouchOk d.c t d.ns [i, j]) (hco : b = false → d.co = none) (hci : b = false → d.ci = none) :
    Calls Tryz.prog 131 #[pt s, .int .i64 t, edgVal v] w fun e w' => e = .returned (.tuple #[.int .i64 (if b then 0 else (d.es.length : Int) + 1), .int .i64 (if b then 6 else 0)]) ∧
      Sto O w' s (if b then { d with c := d.c.dropped t } else { d with ns := touchedN t d.ns [i, j], es := d.es ++ [[⟨t, v, false⟩]], ends := d.ends ++ [(v.src, v.dst)], co := some (v.src, (d.es.length : Int) + 1), ci := some (v.dst, (d.es.length : Int) + 1) }) ∧ FrO O w w' ∧ TFr stoT w w' := by
  have hti : ((i : Int) + 1).toNat - 1 = i := by omega
  have htj : ((j : Int) + 1).toNat - 1 = j := by omega
  obtain ⟨src, dst, ty, wt⟩ := v
  simp only at hvi hvj
  subst hvi hvj
  have B0 := below_alloc w (.cells #[.int .i64 ((i : Int) + 1), .int .i64 ((j : Int) + 1), .string ty, .float .f64 wt] 38)
  have E0 := hid (Blk.new w 38 [.int .i64 ((i : Int) + 1), .int .i64 ((j : Int) + 1), .string ty, .float .f64 wt])
  have H0 := hid (h.below B0)
  have HL := hid (sto_isLive H0.out t true hlv)
  have B0 := hid B0
  have HO := hid hO
  have HEE := hid hE
  have HLV := hid hlv
  have HLL := hid hl
  have HMM := hid hm
  have HOK := hid hok
  have HOKM := hid hokm
  have HNE := hid hne
  have HB := hid hb
  have HU := hid hu
  have HT := hid ht
  have HCO := hid hco
  have HCI := hid hci
  have hi := (List.getElem?_eq_some_iff.1 hl).1
  have hj := (List.getElem?_eq_some_iff.1 hm).1
  have HI := hid hi
  have HJ := hid hj
  clear h hO hE hl hm hlv hok hokm hne hb hu ht hco hci hi hj
  go_enter Tryz.func131, Tryz.ntmps131
  go_wp2_with fail
  refine HL.out.mono ?_
  rintro e w1 ⟨rfl, rfl⟩
  go_wp2_with fail
  refine (HEE.out _).mono ?_
  rintro e w1 ⟨rfl, b1⟩
  have H1 := hid (H0.out.below b1)
  have E1 := hid (E0.out.below b1 E0.out.lt)
  have B1 := hid (bstep B0.out (Nat.le_refl _) b1)
  have x0 : w1.cell? ⟨w.heap.size, 0, none⟩ = some (.int .i64 ((i : Int) + 1)) := E1.out.cell 0
  clear b1 H0 E0 B0 HL
  go_wp2_with fail
  refine (sto_reads H1.out t ((i : Int) + 1) (by omega) l (by rw [hti]; exact HLL.out) true HOK.out).mono ?_
  rintro e w2 ⟨rfl, b2⟩
  have H2 := hid (H1.out.below b2)
  have E2 := hid (E1.out.below b2 E1.out.lt)
  have B2 := hid (bstep B1.out (Nat.le_refl _) b2)
  have x1 : w2.cell? ⟨w.heap.size, 1, none⟩ = some (.int .i64 ((j : Int) + 1)) := E2.out.cell 1
  clear b2 H1 E1 B1 x0
  go_wp2_with fail
  refine (sto_reads H2.out t ((j : Int) + 1) (by omega) m (by rw [htj]; exact HMM.out) true HOKM.out).mono ?_
  rintro e w3 ⟨rfl, b3⟩
  have H3 := hid (H2.out.below b3)
  have E3 := hid (E2.out.below b3 E2.out.lt)
  have B3 := hid (bstep B2.out (Nat.le_refl _) b3)
  have x0 : w3.cell? ⟨w.heap.size, 0, none⟩ = some (.int .i64 ((i : Int) + 1)) := E3.out.cell 0
  have x1 : w3.cell? ⟨w.heap.size, 1, none⟩ = some (.int .i64 ((j : Int) + 1)) := E3.out.cell 1
  have c2 := H3.out.c2
  have hnI : ¬ ((32 : Int) ≤ (d.es.length : Int)) := by have := HNE.out; omega
  have hnN : decide (32 ≤ d.es.length) = false := by have := HNE.out; simp; omega
  have b4 := below_alloc w3 (.cells #[.int .i64 ((i : Int) + 1), .int .i64 ((j : Int) + 1)] 3)
  have HM := hid (sto_may (H3.out.below b4) (HO.out.step (Nat.le_trans B3.out.size b4.size)) t w3.heap.size [i, j] (ints_two (Blk.new w3 3 [.int .i64 ((i : Int) + 1), .int .i64 ((j : Int) + 1)])) (by simp) (by
    intro k hk
    simp at hk
    rcases hk with rfl | rfl
    · exact HI.out
    · exact HJ.out) b HB.out HU.out)
  have E4 := hid (E3.out.below b4 E3.out.lt)
  have B4 := hid (bstep B3.out (Nat.le_refl _) b4)
  clear b3 b4 H2 E2 B2 H3 E3 B3
  cases b
  · go_wp2_with fail
    refine HM.out.mono ?_
    rintro e w5 ⟨rfl, z1, z2, z3⟩
    have E5 := E4.out.tfr z3 (by decide)
    have b6 := below_alloc w5 (.cells #[.int .i64 ((i : Int) + 1), .int .i64 ((j : Int) + 1)] 3)
    have F5 := hid ((FrO.of_below B4.out).trans z2)
    have T5 := hid ((TFr.of_below (ts := stoT) B4.out).trans z3)
    have HTC := hid (sto_touches (z1.below b6) (HO.out.step (Nat.le_trans F5.out.size b6.size)) t w5.heap.size [i, j] (Blk.new w5 3 [.int .i64 ((i : Int) + 1), .int .i64 ((j : Int) + 1)]) (by simp) (HT.out (by simp)))
    have y0 : w5.cell? ⟨w.heap.size, 0, none⟩ = some (.int .i64 ((i : Int) + 1)) := E5.cell 0
    have y1 : w5.cell? ⟨w.heap.size, 1, none⟩ = some (.int .i64 ((j : Int) + 1)) := E5.cell 1
    have E6 := hid (E5.below b6 E5.lt)
    have F6 := hid (F5.out.step b6)
    have T6 := hid (T5.out.trans (.of_below b6))
    clear z1 z2 z3 E5 b6 HM F5 T5 x0 x1 c2
    go_wp2_with fail
    refine HTC.out.mono ?_
    rintro e w7 ⟨⟨u, rfl⟩, z1, z2, z3⟩
    have H7 := hid z1
    have E7 := hid (E6.out.tfr z3 (by decide))
    have F7 := hid (F6.out.trans z2)
    have T7 := hid (T6.out.trans z3)
    have c2 := H7.out.c2
    have HG := hid (sto_grows H7.out (HO.out.step F7.out.size) 0 (d.es.length + 1) (by omega) (by have := HNE.out; omega))
    have hnm : (d.es.length : Int) ≤ 31 := by have := HNE.out; omega
    clear z1 z2 z3 E6 F6 T6 HTC y0 y1
    go_wp2_with fail
    refine HG.out.mono ?_
    rintro e w8 ⟨⟨u2, rfl⟩, ⟨p8, z1⟩, z2, z3⟩
    have e1 : d.es.length + 1 - d.es.length = 1 := by omega
    simp only [Nat.zero_sub, e1, List.replicate_zero, List.append_nil, List.replicate_one] at z1
    have H8 := hid z1
    have E8 := hid (E7.out.tfr z3 (by decide))
    have F8 := hid (F7.out.trans z2)
    have T8 := hid (T7.out.trans z3)
    have c28 := H8.out.c2
    simp only [List.length_append, List.length_singleton] at c28
    have k0 : w8.cell? ⟨w.heap.size, 0, none⟩ = some (.int .i64 ((i : Int) + 1)) := E8.out.cell 0
    have k1 : w8.cell? ⟨w.heap.size, 1, none⟩ = some (.int .i64 ((j : Int) + 1)) := E8.out.cell 1
    have k2 : w8.cell? ⟨w.heap.size, 2, none⟩ = some (.string ty) := E8.out.cell 2
    have k3 : w8.cell? ⟨w.heap.size, 3, none⟩ = some (.float .f64 wt) := E8.out.cell 3
    have HTI := hid (fun n => sto_ties (H8.out.drewN n) (HO.out.step F8.out.size) t d.es.length ⟨(i : Int) + 1, (j : Int) + 1, ty, wt⟩ [] (by simp) rfl (by simp) (.inl (HCO.out (by simp))) (.inl (HCI.out (by simp))))
    clear z1 z2 z3 c2 HG
    go_wp2_with fail
    go_region_held3 (fun W => W.cell? ⟨s, 2, none⟩ = some (.slice p8.eA (d.es.length + 1) p8.ec) ∧ W.cell? ⟨w.heap.size, 0, none⟩ = some (.int .i64 ((i : Int) + 1)) ∧ W.cell? ⟨w.heap.size, 1, none⟩ = some (.int .i64 ((j : Int) + 1)) ∧ W.cell? ⟨w.heap.size, 2, none⟩ = some (.string ty) ∧ W.cell? ⟨w.heap.size, 3, none⟩ = some (.float .f64 wt))
      (first
        | exact ⟨c28, k0, k1, k2, k3⟩
        | exact ⟨r5, r0, r1, r2, r3⟩
        | go_keep)
      (first
        | (go_at_call 81
           refine (HTI.out 1).mono ?_
           rintro e w9 ⟨⟨u3, rfl⟩, z1, z2, z3⟩
           have r5 := z1.c2
           simp only [List.length_set, List.length_append, List.length_singleton] at r5
           have q9 := (E8.out.drewN 1).tfr z3 (by decide)
           have r0 : w9.cell? ⟨w.heap.size, 0, none⟩ = some (.int .i64 ((i : Int) + 1)) := q9.cell 0
           have r1 : w9.cell? ⟨w.heap.size, 1, none⟩ = some (.int .i64 ((j : Int) + 1)) := q9.cell 1
           have r2 : w9.cell? ⟨w.heap.size, 2, none⟩ = some (.string ty) := q9.cell 2
           have r3 : w9.cell? ⟨w.heap.size, 3, none⟩ = some (.float .f64 wt) := q9.cell 3))
    have H9 := hid z1
    have F9 := hid ((F8.out.drewN 1).trans z2)
    have T9 := hid ((T8.out.trans (.of_below (below_drewN' _ 1))).trans z3)
    clear z1 z2 z3 r0 r1 r2 r3 q9 k0 k1 k2 k3 c28
    go_wp2_with fail
    go_ret2
    refine ⟨rfl, ⟨p8, ?_⟩, F9.out, T9.out⟩
    have := H9.out
    have e2 : (d.es ++ [[]]).set d.es.length (Cel.written [] t ⟨(i : Int) + 1, (j : Int) + 1, ty, wt⟩ false) = d.es ++ [[⟨t, ⟨(i : Int) + 1, (j : Int) + 1, ty, wt⟩, false⟩]] := by
      rw [List.set_append_right _ _ (Nat.le_refl _)]
      simp [Cel.written, Cel.mine]
    have e3 : (d.ends ++ [(0, 0)]).set d.es.length ((i : Int) + 1, (j : Int) + 1) = d.ends ++ [((i : Int) + 1, (j : Int) + 1)] := by
      have hdl : d.ends.length = d.es.length := by have := H8.out.dl; simpa using this
      rw [← hdl, List.set_append_right _ _ (Nat.le_refl _)]
      simp
    rw [e2, e3] at this
    simp only [HCO.out (by simp), HCI.out (by simp), chnAdded] at this
    exact this
  · go_wp2_with fail
    refine HM.out.mono ?_
    rintro e w5 ⟨rfl, z1, z2, z3⟩
    have Z1 := hid z1
    have Z2 := hid ((FrO.of_below B4.out).trans z2)
    have Z3 := hid ((TFr.of_below (ts := stoT) B4.out).trans z3)
    clear z1 z2 z3 HM
    go_wp2_with fail
    go_ret2
    exact ⟨rfl, ⟨p, Z1.out⟩, Z2.out, Z3.out⟩
end
end Go.Proofs.YtdfkdgnhpdgphaaGreatDoor

/-
  A store: the closures of Image and Pending; ofNode, ofEdge.
-/
namespace Go.Proofs.YtdfkdgnhpdgphaaGreatDoor
open Go.RowKit Go.Proofs.Lig
attribute [local go_sem] run_store_float

/-- What was written of a node without anything, or of an edge. -/
structure Wr where
  edge : Bool
  id : Int
  gone : Bool
  e : EdgV
/-- An edge of nothing. -/
def z0 : EdgV := ⟨0, 0, ⟨#[]⟩, 0⟩
def encWr (x : Wr) : List Value := [.bool x.edge, .int .i64 x.id, .bool x.gone, .slice none 0 0, .slice none 0 0, .int .i64 x.e.src, .int .i64 x.e.dst, .string x.e.ty, .float .f64 x.e.w]
def encWrs (l : List Wr) : List Value := l.flatMap encWr
set_option maxRecDepth 100000 in
theorem encWrs_len (l : List Wr) : (encWrs l).length = l.length * 9 := by
  induction l with
  | nil => rfl
  | cons x l ih => simp only [encWrs, List.flatMap_cons, List.length_append, List.length_cons] at ih ⊢; rw [ih]; simp [encWr]; omega
set_option maxRecDepth 100000 in
theorem encWrs_append (l m : List Wr) : encWrs (l ++ m) = encWrs l ++ encWrs m := by simp [encWrs]
theorem encWrs_one (l : List Wr) : ∀ u ∈ encWrs l, u.oneCell' = true := by
  intro u hu
  obtain ⟨x, _, hx⟩ := List.mem_flatMap.1 hu
  simp only [encWr, List.mem_cons, List.not_mem_nil, or_false] at hx
  rcases hx with rfl | rfl | rfl | rfl | rfl | rfl | rfl | rfl | rfl <;> rfl
set_option maxRecDepth 100000 in
theorem info_wr : (Tryz.prog.info? 113).map (fun i => (i.zero, i.size, i.bytes)) = some (some (.agg (encWr ⟨false, 0, false, z0⟩).toArray), 9, 112) := by kernel_rfl
theorem size_wr : (Tryz.prog.info? 113).map (·.size) = some 9 := by kernel_rfl

set_option maxRecDepth 100000 in
theorem blk_all {w : World} {g : Nat} {t : TypeId} {cs : List Value} (vs : List Value) (h : Blk w g t cs) (hl : vs.length = cs.length) : Blk (w.setCells g 0 vs) g t vs := by
  have := Blk.setCells vs 0 h (by omega)
  simpa [hl] using this
set_option maxRecDepth 100000 in
theorem below_all {N : Nat} {w w' : World} {g : Nat} (vs : List Value) (h : Below N w w') (hg : N ≤ g) : Below N w (w'.setCells g 0 vs) := by
  have key : ∀ (vs : List Value) (o : Nat) (w' : World), Below N w w' → Below N w (w'.setCells g o vs) := by
    intro vs
    induction vs with
    | nil => intro o w' h; exact h
    | cons v r ih => intro o w' h; exact ih (o + 1) _ (h.setCell (p := ⟨g, o, none⟩) hg v)
  exact key vs 0 w' h
section
variable {O : Nat → Prop} {w w' : World} {s : Nat} {p : StoP} {d : StoD}
set_option maxRecDepth 100000 in
theorem edg_last (h : StoA O w s p d) {X : Nat} {S : List Nat} {l : List (Ver EdgV)} (hX : Edg.CelS w X S l) (v : EdgV) (ok : Bool) (hv : (Cel.lastBy (Edg.doneBy d.c) l).getD z0 = v) (hok : (Cel.lastBy (Edg.doneBy d.c) l).isSome = ok) :
    Calls Tryz.prog 36 #[pt X, pt p.C] w fun e w' => e = .returned (.tuple #[edgVal v, .bool ok]) ∧ Below w.heap.size w w' := by
  obtain ⟨SC, hc, _⟩ := h.clk
  obtain ⟨A, cap, hX, _⟩ := hX
  exact Edg.last_S w X A cap l p.C SC d.c hX hc v ok hv hok
set_option maxRecDepth 100000 in
theorem ofNode_bare (w : World) : Calls Tryz.prog 39 #[nodVal] w fun e w' => e = .returned (.agg (encWr ⟨false, 0, false, z0⟩).toArray) ∧ Below w.heap.size w w' := by
  have B1 := (below_alloc w (.cells #[.slice none 0 0, .slice none 0 0] 35)).alloc (by simp) (.cells (encWr ⟨false, 0, false, z0⟩).toArray 113)
  have K1 := Blk.new (w.alloc (.cells #[.slice none 0 0, .slice none 0 0] 35)) 113 (encWr ⟨false, 0, false, z0⟩)
  rw [World.size_alloc] at K1
  have HK1 := hid K1
  have HB1 := hid B1
  clear K1 B1
  go_enter Tryz.func39, Tryz.ntmps39
  go_wp2_with fail
  refine (sto_copied _).mono ?_
  rintro e w2 ⟨rfl, b2⟩
  have K2 := hid (HK1.out.below b2 HK1.out.lt)
  have B2 := hid (bstep HB1.out (Nat.le_refl _) b2)
  have k0 : w2.cell? ⟨w.heap.size + 1, 0, none⟩ = some (.bool false) := K2.out.cell 0
  have f0 := K2.out.frozen 0
  have k1 : w2.cell? ⟨w.heap.size + 1, 1, none⟩ = some (.int .i64 0) := K2.out.cell 1
  have f1 := K2.out.frozen 1
  have k2 : w2.cell? ⟨w.heap.size + 1, 2, none⟩ = some (.bool false) := K2.out.cell 2
  have f2 := K2.out.frozen 2
  have k3 : w2.cell? ⟨w.heap.size + 1, 3, none⟩ = some (.slice none 0 0) := K2.out.cell 3
  have f3 := K2.out.frozen 3
  have k4 : w2.cell? ⟨w.heap.size + 1, 4, none⟩ = some (.slice none 0 0) := K2.out.cell 4
  have f4 := K2.out.frozen 4
  have k5 : w2.cell? ⟨w.heap.size + 1, 5, none⟩ = some (.int .i64 0) := K2.out.cell 5
  have f5 := K2.out.frozen 5
  have k6 : w2.cell? ⟨w.heap.size + 1, 6, none⟩ = some (.int .i64 0) := K2.out.cell 6
  have f6 := K2.out.frozen 6
  have k7 : w2.cell? ⟨w.heap.size + 1, 7, none⟩ = some (.string ⟨#[]⟩) := K2.out.cell 7
  have f7 := K2.out.frozen 7
  have k8 : w2.cell? ⟨w.heap.size + 1, 8, none⟩ = some (.float .f64 0) := K2.out.cell 8
  have f8 := K2.out.frozen 8
  have kl := K2.out.lt
  go_wp2_with fail
  have K3 := blk_all (encWr ⟨false, 0, false, z0⟩) K2 rfl
  have B3 := below_all (encWr ⟨false, 0, false, z0⟩) (g := w.heap.size + 1) B2 (by omega)
  exact bodyPost_ret (res_agg rfl _ _ (w.heap.size + 1) 113 (encWr ⟨false, 0, false, z0⟩) _ K3 rfl Tryz.underlying113 rfl size_wr) rfl ⟨rfl, B3⟩
set_option maxRecDepth 100000 in
theorem ofEdge_any (w : World) (v : EdgV) : Calls Tryz.prog 42 #[edgVal v] w fun e w' => e = .returned (.agg (encWr ⟨false, 0, false, v⟩).toArray) ∧ Below w.heap.size w w' := by
  have B1 := (below_alloc w (.cells #[.int .i64 v.src, .int .i64 v.dst, .string v.ty, .float .f64 v.w] 38)).alloc (by simp) (.cells (encWr ⟨false, 0, false, v⟩).toArray 113)
  have K1 := Blk.new (w.alloc (.cells #[.int .i64 v.src, .int .i64 v.dst, .string v.ty, .float .f64 v.w] 38)) 113 (encWr ⟨false, 0, false, v⟩)
  rw [World.size_alloc] at K1
  go_enter Tryz.func42, Tryz.ntmps42
  go_wp2_with fail
  trace_state
  exact bodyPost_ret (res_agg rfl _ _ (w.heap.size + 1) 113 (encWr ⟨false, 0, false, v⟩) _ K1 rfl Tryz.underlying113 rfl size_wr) rfl ⟨rfl, B1⟩
end
end Go.Proofs.YtdfkdgnhpdgphaaGreatDoor

/-
  A store: the closures of Image and Pending. (Printed by mk/stoq.py.)
-/
namespace Go.Proofs.YtdfkdgnhpdgphaaGreatDoor
open Go.RowKit Go.Proofs.Lig
attribute [local go_sem] run_store_float

set_option maxRecDepth 100000 in
theorem size_edge : (Tryz.prog.info? 38).map (·.size) = some 4 := by kernel_rfl
section
variable {O : Nat → Prop} {w w' : World} {s : Nat} {p : StoP} {d : StoD}
set_option maxRecDepth 100000 in
theorem image1 (h : StoA O w s p d) {X : Nat} {S : List Nat} {l : List (Ver NodV)} (hX : Nod.CelS w X S l) (hb : ∀ y ∈ l, y.v = e0) (ok : Bool) (hok : (Cel.lastBy (Nod.doneBy d.c) l).isSome = ok) (B : Nat) (hB : Blk w B 56 [pt s]) :
    Calls Tryz.prog 33 #[pt X, pt B] w fun e w' => e = .returned (.bool ok) ∧ Below w.heap.size w w' := by
  have := hb
  have HL := hid (nod_last h hX hb ok hok)
  have c0 := h.c0
  have b0 : w.cell? ⟨B, 0, none⟩ = some (pt s) := hB.cell 0
  clear h hX hB
  go_enter Tryz.func33, Tryz.ntmps33
  go_wp2_with fail
  refine HL.out.mono ?_
  rintro e w1 ⟨rfl, b1⟩
  have B1 := hid (b1.alloc b1.size (.cells #[.slice none 0 0, .slice none 0 0] 35))
  go_wp2_with fail
  go_ret
  exact ⟨rfl, B1.out⟩
set_option maxRecDepth 100000 in
theorem image3 (h : StoA O w s p d) {X : Nat} {S : List Nat} {l : List (Ver NodV)} (hX : Nod.CelS w X S l) (hb : ∀ y ∈ l, y.v = e0) (ok : Bool) (hok : (Cel.lastBy (Nod.doneBy d.c) l).isSome = ok) (B : Nat) (hB : Blk w B 56 [pt s]) :
    Calls Tryz.prog 38 #[pt X, pt B] w fun e w' => e = .returned (.tuple #[nodVal, .bool ok]) ∧ Below w.heap.size w w' := by
  have B0 := below_alloc w (.cells #[.slice none 0 0, .slice none 0 0] 35)
  have K0 := hid (Blk.new w 35 [.slice none 0 0, .slice none 0 0])
  have HL := hid (nod_last (h.below B0) (hX.tfr (ts := []) (.of_below B0) (by simp)) hb ok hok)
  have c0 := (h.below B0).c0
  have hBl := hB.lt
  have b0 : (w.alloc (.cells #[.slice none 0 0, .slice none 0 0] 35)).cell? ⟨B, 0, none⟩ = some (pt s) := (hB.below B0 hBl).cell 0
  have B0 := hid B0
  clear h hX hB
  go_enter Tryz.func38, Tryz.ntmps38
  go_wp2_with fail
  refine HL.out.mono ?_
  rintro e w1 ⟨rfl, b1⟩
  have K1 := K0.out.below b1 K0.out.lt
  have k0 : w1.cell? ⟨w.heap.size, 0, none⟩ = some (.slice none 0 0) := K1.cell 0
  have f0 : w1.frozen? ⟨w.heap.size, 0, none⟩ = false := K1.frozen 0
  have k1 : w1.cell? ⟨w.heap.size, 1, none⟩ = some (.slice none 0 0) := K1.cell 1
  have f1 : w1.frozen? ⟨w.heap.size, 1, none⟩ = false := K1.frozen 1
  have kl := K1.lt
  have B1 := bstep B0.out (Nat.le_refl _) b1
  have K2 := hid (blk_all [.slice none 0 0, .slice none 0 0] K1 rfl)
  have B2 := hid (below_all [.slice none 0 0, .slice none 0 0] (g := w.heap.size) B1 (Nat.le_refl _))
  clear K1 B1 b1
  go_wp2_with fail
  exact bodyPost_ret (res_cell rfl _ _ w.heap.size 35 [.slice none 0 0, .slice none 0 0] _ K2.out rfl Tryz.underlying35 rfl size_node) rfl ⟨rfl, B2.out⟩
set_option maxRecDepth 100000 in
theorem pending1 (_h : StoA O w s p d) {X : Nat} {S : List Nat} {l : List (Ver NodV)} (hX : Nod.CelS w X S l) (t : Int) (m : Bool) (hm : (l.any fun y => y.who == t) = m) (B : Nat) (hB : Blk w B 3 [.int .i64 t]) :
    Calls Tryz.prog 202 #[pt X, pt B] w fun e w' => e = .returned (.bool m) ∧ Below w.heap.size w w' := by
  obtain ⟨A, cap, hX, _⟩ := hX
  have HW := hid (Nod.cel_wrote w X A cap l t hX m hm)
  have b0 : w.cell? ⟨B, 0, none⟩ = some (.int .i64 t) := hB.cell 0
  clear _h hX hB hm
  go_enter Tryz.func202, Tryz.ntmps202
  go_wp2_with fail
  refine HW.out.mono ?_
  rintro e w1 ⟨rfl, b1⟩
  go_wp2_with fail
  go_ret
  exact ⟨rfl, b1⟩
set_option maxHeartbeats 2000000 in
set_option maxRecDepth 100000 in
theorem pending2 (h : StoA O w s p d) {X : Nat} {S : List Nat} {l : List (Ver NodV)} (hX : Nod.CelS w X S l) (hb : ∀ y ∈ l, y.v = e0) (t : Int) (ok : Bool) (hok : (Cel.lastBy (d.c.sees t) l).isSome = ok) (B B' : Nat) (hB : Blk w B 56 [pt s]) (hB' : Blk w B' 3 [.int .i64 t]) :
    Calls Tryz.prog 204 #[pt X, pt B, pt B'] w fun e w' => e = .returned (.tuple #[nodVal, .bool ok]) ∧ Below w.heap.size w w' := by
  have B0 := below_alloc w (.cells #[.slice none 0 0, .slice none 0 0] 35)
  have K0 := hid (Blk.new w 35 [.slice none 0 0, .slice none 0 0])
  have B1 := bdrewN B0 1
  have HL := hid (nod_read (h.below B1) (hX.tfr (ts := []) (.of_below B1) (by simp)) hb t ok hok)
  have c0 := (h.below B1).c0
  have hBl := hB.lt
  have hBl' := hB'.lt
  have hsl := h.blk.lt
  have b0 : ((w.alloc (.cells #[.slice none 0 0, .slice none 0 0] 35)).drewN 1).cell? ⟨B, 0, none⟩ = some (pt s) := (hB.below B1 hBl).cell 0
  have b0' : ((w.alloc (.cells #[.slice none 0 0, .slice none 0 0] 35)).drewN 1).cell? ⟨B', 0, none⟩ = some (.int .i64 t) := (hB'.below B1 hBl').cell 0
  have B1 := hid B1
  clear h hX hB hB' B0
  go_enter Tryz.func204, Tryz.ntmps204
  go_wp2_with fail
  go_region_held3 (fun W => W.cell? ⟨B, 0, none⟩ = some (pt s) ∧ W.cell? ⟨s, 0, none⟩ = some (pt p.C) ∧ W.cell? ⟨B', 0, none⟩ = some (.int .i64 t))
    (first
      | exact ⟨b0, c0, b0'⟩
      | exact ⟨(b2.cell (p := ⟨B, 0, none⟩) (Nat.lt_of_lt_of_le hBl B1.out.size)).trans b0, (b2.cell (p := ⟨s, 0, none⟩) (Nat.lt_of_lt_of_le hsl B1.out.size)).trans c0, (b2.cell (p := ⟨B', 0, none⟩) (Nat.lt_of_lt_of_le hBl' B1.out.size)).trans b0'⟩
      | exact ⟨(B4.cell (p := ⟨B, 0, none⟩) hBl).trans b00, (B4.cell (p := ⟨s, 0, none⟩) hsl).trans c00, (B4.cell (p := ⟨B', 0, none⟩) hBl').trans b00'⟩
      | go_keep)
    (first
      | (go_at_call 205; refine HL.out.mono ?_; rintro e w1 ⟨rfl, b2⟩
         have K1 := (K0.out.drewN 1).below b2 (by have := K0.out.lt; simp)
         have k0 : w1.cell? ⟨w.heap.size, 0, none⟩ = some (.slice none 0 0) := K1.cell 0
         have f0 : w1.frozen? ⟨w.heap.size, 0, none⟩ = false := K1.frozen 0
         have k1 : w1.cell? ⟨w.heap.size, 1, none⟩ = some (.slice none 0 0) := K1.cell 1
         have f1 : w1.frozen? ⟨w.heap.size, 1, none⟩ = false := K1.frozen 1
         have kl := K1.lt
         have K4 := hid (blk_all [.slice none 0 0, .slice none 0 0] K1 rfl)
         have B4 := below_all [.slice none 0 0, .slice none 0 0] (g := w.heap.size) (bstep B1.out (Nat.le_refl _) b2) (Nat.le_refl _)
         have b00 := (B1.out.cell (p := ⟨B, 0, none⟩) hBl).symm.trans b0
         have c00 := (B1.out.cell (p := ⟨s, 0, none⟩) hsl).symm.trans c0
         have b00' := (B1.out.cell (p := ⟨B', 0, none⟩) hBl').symm.trans b0'))
  go_wp2_with fail
  exact bodyPost_ret (res_cell rfl _ _ w.heap.size 35 [.slice none 0 0, .slice none 0 0] _ K4.out rfl Tryz.underlying35 rfl size_node) rfl ⟨rfl, B4⟩
set_option maxRecDepth 100000 in
theorem image2 (h : StoA O w s p d) {X : Nat} {S : List Nat} {l : List (Ver EdgV)} (hX : Edg.CelS w X S l) (ok : Bool) (hok : (Cel.lastBy (Edg.doneBy d.c) l).isSome = ok) (B : Nat) (hB : Blk w B 56 [pt s]) :
    Calls Tryz.prog 35 #[pt X, pt B] w fun e w' => e = .returned (.bool ok) ∧ Below w.heap.size w w' := by
  obtain ⟨v, hv⟩ : ∃ v, (Cel.lastBy (Edg.doneBy d.c) l).getD z0 = v := ⟨_, rfl⟩
  have HL := hid (edg_last h hX v ok hv hok)
  have c0 := h.c0
  have b0 : w.cell? ⟨B, 0, none⟩ = some (pt s) := hB.cell 0
  clear h hX hB
  go_enter Tryz.func35, Tryz.ntmps35
  go_wp2_with fail
  refine HL.out.mono ?_
  rintro e w1 ⟨rfl, b1⟩
  have B1 := hid (b1.alloc b1.size (.cells #[.int .i64 v.src, .int .i64 v.dst, .string v.ty, .float .f64 v.w] 38))
  go_wp2_with fail
  go_ret
  exact ⟨rfl, B1.out⟩
set_option maxRecDepth 100000 in
theorem image4 (h : StoA O w s p d) {X : Nat} {S : List Nat} {l : List (Ver EdgV)} (hX : Edg.CelS w X S l) (v : EdgV) (ok : Bool) (hv : (Cel.lastBy (Edg.doneBy d.c) l).getD z0 = v) (hok : (Cel.lastBy (Edg.doneBy d.c) l).isSome = ok) (B : Nat) (hB : Blk w B 56 [pt s]) :
    Calls Tryz.prog 41 #[pt X, pt B] w fun e w' => e = .returned (.tuple #[edgVal v, .bool ok]) ∧ Below w.heap.size w w' := by
  have B0 := below_alloc w (.cells #[.int .i64 0, .int .i64 0, .string ⟨#[]⟩, .float .f64 0] 38)
  have K0 := hid (Blk.new w 38 [.int .i64 0, .int .i64 0, .string ⟨#[]⟩, .float .f64 0])
  have HL := hid (edg_last (h.below B0) (hX.tfr (ts := []) (.of_below B0) (by simp)) v ok hv hok)
  have c0 := (h.below B0).c0
  have hBl := hB.lt
  have b0 : (w.alloc (.cells #[.int .i64 0, .int .i64 0, .string ⟨#[]⟩, .float .f64 0] 38)).cell? ⟨B, 0, none⟩ = some (pt s) := (hB.below B0 hBl).cell 0
  have B0 := hid B0
  clear h hX hB
  go_enter Tryz.func41, Tryz.ntmps41
  go_wp2_with fail
  refine HL.out.mono ?_
  rintro e w1 ⟨rfl, b1⟩
  have K1 := K0.out.below b1 K0.out.lt
  have k0 : w1.cell? ⟨w.heap.size, 0, none⟩ = some (.int .i64 0) := K1.cell 0
  have f0 : w1.frozen? ⟨w.heap.size, 0, none⟩ = false := K1.frozen 0
  have k1 : w1.cell? ⟨w.heap.size, 1, none⟩ = some (.int .i64 0) := K1.cell 1
  have f1 : w1.frozen? ⟨w.heap.size, 1, none⟩ = false := K1.frozen 1
  have k2 : w1.cell? ⟨w.heap.size, 2, none⟩ = some (.string ⟨#[]⟩) := K1.cell 2
  have f2 : w1.frozen? ⟨w.heap.size, 2, none⟩ = false := K1.frozen 2
  have k3 : w1.cell? ⟨w.heap.size, 3, none⟩ = some (.float .f64 0) := K1.cell 3
  have f3 : w1.frozen? ⟨w.heap.size, 3, none⟩ = false := K1.frozen 3
  have kl := K1.lt
  have B1 := bstep B0.out (Nat.le_refl _) b1
  have K2 := hid (blk_all [.int .i64 v.src, .int .i64 v.dst, .string v.ty, .float .f64 v.w] K1 rfl)
  have B2 := hid (below_all [.int .i64 v.src, .int .i64 v.dst, .string v.ty, .float .f64 v.w] (g := w.heap.size) B1 (Nat.le_refl _))
  clear K1 B1 b1
  go_wp2_with fail
  exact bodyPost_ret (res_cell rfl _ _ w.heap.size 38 [.int .i64 v.src, .int .i64 v.dst, .string v.ty, .float .f64 v.w] _ K2.out rfl Tryz.underlying38 rfl size_edge) rfl ⟨rfl, B2.out⟩
set_option maxRecDepth 100000 in
theorem pending3 (_h : StoA O w s p d) {X : Nat} {S : List Nat} {l : List (Ver EdgV)} (hX : Edg.CelS w X S l) (t : Int) (m : Bool) (hm : (l.any fun y => y.who == t) = m) (B : Nat) (hB : Blk w B 3 [.int .i64 t]) :
    Calls Tryz.prog 206 #[pt X, pt B] w fun e w' => e = .returned (.bool m) ∧ Below w.heap.size w w' := by
  obtain ⟨A, cap, hX, _⟩ := hX
  have HW := hid (Edg.cel_wrote w X A cap l t hX m hm)
  have b0 : w.cell? ⟨B, 0, none⟩ = some (.int .i64 t) := hB.cell 0
  clear _h hX hB hm
  go_enter Tryz.func206, Tryz.ntmps206
  go_wp2_with fail
  refine HW.out.mono ?_
  rintro e w1 ⟨rfl, b1⟩
  go_wp2_with fail
  go_ret
  exact ⟨rfl, b1⟩
set_option maxHeartbeats 2000000 in
set_option maxRecDepth 100000 in
theorem pending4 (h : StoA O w s p d) {X : Nat} {S : List Nat} {l : List (Ver EdgV)} (hX : Edg.CelS w X S l) (t : Int) (v : EdgV) (ok : Bool) (hv : (Cel.lastBy (d.c.sees t) l).getD z0 = v) (hok : (Cel.lastBy (d.c.sees t) l).isSome = ok) (B B' : Nat) (hB : Blk w B 56 [pt s]) (hB' : Blk w B' 3 [.int .i64 t]) :
    Calls Tryz.prog 208 #[pt X, pt B, pt B'] w fun e w' => e = .returned (.tuple #[edgVal v, .bool ok]) ∧ Below w.heap.size w w' := by
  have B0 := below_alloc w (.cells #[.int .i64 0, .int .i64 0, .string ⟨#[]⟩, .float .f64 0] 38)
  have K0 := hid (Blk.new w 38 [.int .i64 0, .int .i64 0, .string ⟨#[]⟩, .float .f64 0])
  have B1 := bdrewN B0 1
  have HL := hid (edg_read (h.below B1) (hX.tfr (ts := []) (.of_below B1) (by simp)) t v ok hv hok)
  have c0 := (h.below B1).c0
  have hBl := hB.lt
  have hBl' := hB'.lt
  have hsl := h.blk.lt
  have b0 : ((w.alloc (.cells #[.int .i64 0, .int .i64 0, .string ⟨#[]⟩, .float .f64 0] 38)).drewN 1).cell? ⟨B, 0, none⟩ = some (pt s) := (hB.below B1 hBl).cell 0
  have b0' : ((w.alloc (.cells #[.int .i64 0, .int .i64 0, .string ⟨#[]⟩, .float .f64 0] 38)).drewN 1).cell? ⟨B', 0, none⟩ = some (.int .i64 t) := (hB'.below B1 hBl').cell 0
  have B1 := hid B1
  clear h hX hB hB' B0
  go_enter Tryz.func208, Tryz.ntmps208
  go_wp2_with fail
  go_region_held3 (fun W => W.cell? ⟨B, 0, none⟩ = some (pt s) ∧ W.cell? ⟨s, 0, none⟩ = some (pt p.C) ∧ W.cell? ⟨B', 0, none⟩ = some (.int .i64 t))
    (first
      | exact ⟨b0, c0, b0'⟩
      | exact ⟨(b2.cell (p := ⟨B, 0, none⟩) (Nat.lt_of_lt_of_le hBl B1.out.size)).trans b0, (b2.cell (p := ⟨s, 0, none⟩) (Nat.lt_of_lt_of_le hsl B1.out.size)).trans c0, (b2.cell (p := ⟨B', 0, none⟩) (Nat.lt_of_lt_of_le hBl' B1.out.size)).trans b0'⟩
      | exact ⟨(B4.cell (p := ⟨B, 0, none⟩) hBl).trans b00, (B4.cell (p := ⟨s, 0, none⟩) hsl).trans c00, (B4.cell (p := ⟨B', 0, none⟩) hBl').trans b00'⟩
      | go_keep)
    (first
      | (go_at_call 209; refine HL.out.mono ?_; rintro e w1 ⟨rfl, b2⟩
         have K1 := (K0.out.drewN 1).below b2 (by have := K0.out.lt; simp)
         have k0 : w1.cell? ⟨w.heap.size, 0, none⟩ = some (.int .i64 0) := K1.cell 0
         have f0 : w1.frozen? ⟨w.heap.size, 0, none⟩ = false := K1.frozen 0
         have k1 : w1.cell? ⟨w.heap.size, 1, none⟩ = some (.int .i64 0) := K1.cell 1
         have f1 : w1.frozen? ⟨w.heap.size, 1, none⟩ = false := K1.frozen 1
         have k2 : w1.cell? ⟨w.heap.size, 2, none⟩ = some (.string ⟨#[]⟩) := K1.cell 2
         have f2 : w1.frozen? ⟨w.heap.size, 2, none⟩ = false := K1.frozen 2
         have k3 : w1.cell? ⟨w.heap.size, 3, none⟩ = some (.float .f64 0) := K1.cell 3
         have f3 : w1.frozen? ⟨w.heap.size, 3, none⟩ = false := K1.frozen 3
         have kl := K1.lt
         have K4 := hid (blk_all [.int .i64 v.src, .int .i64 v.dst, .string v.ty, .float .f64 v.w] K1 rfl)
         have B4 := below_all [.int .i64 v.src, .int .i64 v.dst, .string v.ty, .float .f64 v.w] (g := w.heap.size) (bstep B1.out (Nat.le_refl _) b2) (Nat.le_refl _)
         have b00 := (B1.out.cell (p := ⟨B, 0, none⟩) hBl).symm.trans b0
         have c00 := (B1.out.cell (p := ⟨s, 0, none⟩) hsl).symm.trans c0
         have b00' := (B1.out.cell (p := ⟨B', 0, none⟩) hBl').symm.trans b0'))
  go_wp2_with fail
  exact bodyPost_ret (res_cell rfl _ _ w.heap.size 38 [.int .i64 v.src, .int .i64 v.dst, .string v.ty, .float .f64 v.w] _ K4.out rfl Tryz.underlying38 rfl size_edge) rfl ⟨rfl, B4⟩
end
end Go.Proofs.YtdfkdgnhpdgphaaGreatDoor

/-
  A store: writes, for Image and for Pending, over nodes and over edges. (Printed by mk/stor.py.)
-/
namespace Go.Proofs.YtdfkdgnhpdgphaaGreatDoor
open Go.RowKit Go.Proofs.Lig
attribute [local go_sem] run_store_float

/-- What writes makes of cells: for those that are meant, by what is read of them. -/
def wrsOf {α : Type} (meant : α → Bool) (read : α → Option EdgV) (l : List α) : List Wr := l.zipIdx.filterMap fun x => if meant x.1 then some ⟨false, (x.2 : Int) + 1, !(read x.1).isSome, (read x.1).getD z0⟩ else none
set_option maxRecDepth 100000 in
theorem wrsOf_snoc {α : Type} (meant : α → Bool) (read : α → Option EdgV) (l : List α) (j : Nat) (x : α) (hx : l[j]? = some x) : wrsOf meant read (l.take (j + 1)) = wrsOf meant read (l.take j) ++ if meant x then [⟨false, (j : Int) + 1, !(read x).isSome, (read x).getD z0⟩] else [] := by
  have hj := (List.getElem?_eq_some_iff.1 hx).1
  have e : l.take (j + 1) = l.take j ++ [x] := by rw [List.take_add_one, hx]; rfl
  have e2 : (l.take j).length = j := by rw [List.length_take]; omega
  unfold wrsOf
  rw [e, List.zipIdx_append, List.filterMap_append]
  congr 1
  simp only [List.zipIdx_cons, List.zipIdx_nil, e2, Nat.zero_add]
  cases hm : meant x <;> simp [hm]
set_option maxRecDepth 100000 in
theorem wrsOf_len {α : Type} (meant : α → Bool) (read : α → Option EdgV) (l : List α) : (wrsOf meant read l).length ≤ l.length := by
  unfold wrsOf
  exact Nat.le_trans (List.length_filterMap_le _ _) (by simp)
/-- Rows of what was written. -/
def WRow (w : World) (N : Nat) (A : Option Addr) (cap : Nat) (xs : List Wr) : Prop := w.ownsRow N 113 9 (.slice A xs.length cap) xs.length (encWrs xs)
set_option maxRecDepth 100000 in
theorem wpList_store_blk {P : Program} {ops : Array Oper} {rest : List Oper} {o : Oper} {a : Act} {w : World} {Q : Exit → Act → World → Prop} (hgd : o.guard = none) (ty : TypeId) (x y : Operand) (ho : o.op = .store ty x y) (g : Nat) (t : TypeId) (cs vs : List Value) (hb : Blk w g t cs)
    (hx : a.eval x = .pointer (some ⟨g, 0, none⟩)) (hy : a.eval y = .agg vs.toArray) (hl : vs.length = cs.length) (hi : (P.info? ty).map (·.size) = some vs.length) (h1 : vs.toArray.all (·.oneCell') = true)
    (hK : ∀ w', Blk w' g t vs → Fr [g] w w' → wpList P ops Q rest (a.put o.dst undef) w') : wpList P ops Q (o :: rest) a w := by
  refine wpList_plain hgd fun K hK' => ?_
  refine wp_store_mid ty x y ho g 0 vs.toArray hx hy ?_ (by simpa using hi) h1 ?_
  · exact hb.there 0 _ (by simp [hl])
  · exact hK' _ _ (hK _ (blk_all vs hb hl) (Fr.setCells (.inl (by simp)) _ _ (Fr.refl _ _)))
set_option maxRecDepth 100000 in
theorem news_any (W : World) (cs : List Value) (t : TypeId) (g : Nat) (hg : W.heap.size = g) : ∀ j u, cs[j]? = some u → (W.alloc (.cells cs.toArray t)).cell? ((⟨g, 0, none⟩ : Addr).add j) = some u := by
  subst hg
  exact World.news_of_block (cs := cs.toArray) (t := t) (heap_alloc_new W _)
set_option maxRecDepth 100000 in
theorem encWr_oneL (x : Wr) : ∀ u ∈ encWr x, u.oneCell' = true := fun v hv => encWrs_one [x] v (by simpa [encWrs] using hv)
theorem encWr_all (x : Wr) : (encWr x).toArray.all (·.oneCell') = true := by
  rw [Array.all_eq_true_iff_forall_mem]
  intro v hv
  exact encWrs_one [x] v (by simpa [encWrs] using hv)
set_option maxRecDepth 100000 in
theorem wpList_load_blk {P : Program} {ops : Array Oper} {rest : List Oper} {o : Oper} {a : Act} {w : World} {Q : Exit → Act → World → Prop} (hgd : o.guard = none) (ty : TypeId) (x : Operand) (ho : o.op = .load ty x) (g : Nat) (t : TypeId) (cs : List Value) (d : TypeDesc) (hb : Blk w g t cs)
    (hx : a.eval x = .pointer (some ⟨g, 0, none⟩)) (hu : P.underlying ty = some d) (hd : d.isRow = true) (hi : (P.info? ty).map (·.size) = some cs.length)
    (hK : wpList P ops Q rest (a.put o.dst (.agg cs.toArray)) w) : wpList P ops Q (o :: rest) a w := by
  refine wpList_plain hgd fun K hK' => ?_
  exact wp_load_mid ty x ho g 0 hx cs d hb.range hu hd hi (hK' _ _ hK)
set_option maxRecDepth 100000 in
theorem ofNode_lit (w : World) : Calls Tryz.prog 39 #[nodVal] w fun e w' => e = .returned (.agg #[.bool false, .int .i64 0, .bool false, .slice none 0 0, .slice none 0 0, .int .i64 0, .int .i64 0, .string ⟨#[]⟩, .float .f64 0]) ∧ Below w.heap.size w w' := ofNode_bare w
theorem ofEdge_lit (w : World) (v : EdgV) : Calls Tryz.prog 42 #[edgVal v] w fun e w' => e = .returned (.agg #[.bool false, .int .i64 0, .bool false, .slice none 0 0, .slice none 0 0, .int .i64 v.src, .int .i64 v.dst, .string v.ty, .float .f64 v.w]) ∧ Below w.heap.size w w' := ofEdge_any w v
section
variable {O : Nat → Prop} {w w' : World} {s : Nat} {p : StoP} {d : StoD}
set_option maxHeartbeats 4000000 in
set_option maxRecDepth 100000 in
theorem image_nodes (h : StoA O w s p d) (hn : d.ns.length ≤ 1000) (B : Nat) (hB : Blk w B 56 [pt s]) :
    Calls Tryz.prog 37 #[.slice p.nA d.ns.length p.nc, .func (.func 33) #[] #[pt B], .func (.func 38) #[] #[pt B], .func (.func 39) #[] #[]] w fun e w' => ∃ A' cap', e = .returned (.slice A' (wrsOf (fun l => (Cel.lastBy (Nod.doneBy d.c) l).isSome) (fun l => (Cel.lastBy (Nod.doneBy d.c) l).map fun _ => z0) d.ns).length cap') ∧ WRow w' w.heap.size A' cap' (wrsOf (fun l => (Cel.lastBy (Nod.doneBy d.c) l).isSome) (fun l => (Cel.lastBy (Nod.doneBy d.c) l).map fun _ => z0) d.ns) ∧ Below w.heap.size w w' := by
  obtain ⟨i0, hi0, hz0, hz1, hz2⟩ := info_parts info_wr
  have hpos : 0 < 9 := by omega
  have HH := hid h
  have HN := hid hn
  have HB := hid hB
  obtain ⟨NA, hNA⟩ : ∃ A, p.nA = A := ⟨_, rfl⟩
  rw [hNA]
  have HNA := hid hNA
  have hnI : (d.ns.length : Int) ≤ 1000 := by omega
  clear h hn hNA
  go_enter Tryz.func37, Tryz.ntmps37
  go_wp2_with fail
  go_loopw [9, 17] (fun o v wr => ∃ (j : Nat) (A' : Option Addr) (cap' : Nat) (xs : List Wr), j ≤ d.ns.length ∧ v = .int .i64 (j : Int) ∧ o = .slice A' xs.length cap' ∧ xs.length ≤ j ∧ Hid (wrsOf (fun l => (Cel.lastBy (Nod.doneBy d.c) l).isSome) (fun l => (Cel.lastBy (Nod.doneBy d.c) l).map fun _ => z0) (d.ns.take j) = xs) ∧ Hid (WRow wr w.heap.size A' cap' xs) ∧ Hid (Below w.heap.size w wr)) (fun _ v _ => d.ns.length - (intOf v).toNat)
  case atStart => exact ⟨0, none, 0, [], Nat.zero_le _, rfl, rfl, Nat.le_refl _, rfl, World.ownsRow_nil _ _ _ _, Below.refl _ _⟩
  case round =>
    obtain ⟨j, A', cap', xs, hj, rfl, rfl, hxj, HX, HR, HW⟩ := hrel
    by_cases hlt : j < d.ns.length
    · obtain ⟨l, hl⟩ : ∃ l, d.ns[j]? = some l := ⟨_, List.getElem?_eq_getElem hlt⟩
      have HS := hid (HH.out.below HW.out)
      have hSN := wrsOf_snoc (fun l => (Cel.lastBy (Nod.doneBy d.c) l).isSome) (fun l => (Cel.lastBy (Nod.doneBy d.c) l).map fun _ => z0) d.ns j l hl
      rw [HX.out] at hSN
      have HSN := hid hSN
      obtain ⟨X, S, hX, hC, _⟩ := HS.out.onNode hl
      obtain ⟨g, hA, hc, _, _, _, _⟩ := HS.out.nrow.get (i := j) (v := pt X) (by rw [List.getElem?_map, hX]; rfl)
      rw [HNA.out] at hA
      subst hA
      have hbr := HS.out.bare l (List.mem_of_getElem? hl)
      have HC := hid hC
      have hjI : (j : Int) < (d.ns.length : Int) := by omega
      have hj0 : (0 : Int) ≤ (j : Int) := by omega
      obtain ⟨mi, hmi⟩ : ∃ m, (Cel.lastBy (Nod.doneBy d.c) l).isSome = m := ⟨_, rfl⟩
      have HMI := hid hmi
      obtain ⟨ok, hok⟩ : ∃ m, ((Cel.lastBy (Nod.doneBy d.c) l)).isSome = m := ⟨_, rfl⟩
      have HOK := hid hok
      have HM := hid (image1 HS.out HC.out hbr mi hmi B (HB.out.below HW.out HB.out.lt))
      clear hX hC hl hSN hmi hok
      cases mi
      · go_wp2_with fail
        refine HM.out.mono ?_
        rintro e w2 ⟨rfl, b2⟩
        have B2 := hid (bstep HW.out (Nat.le_refl _) b2)
        have R2 : Hid (WRow w2 w.heap.size A' cap' xs) := own_tfr (ts := []) HR.out (.of_below b2) (by simp)
        clear b2 HM hc
        go_wp2_with fail
        go_roundw
        case rel => exact ⟨j + 1, A', cap', xs, by omega, by go_num, rfl, by omega, by show _ = _; rw [HSN.out, HMI.out]; simp, R2, B2⟩
        case measure => simp [intOf]; omega
      · go_wp2_with fail
        refine HM.out.mono ?_
        rintro e w2 ⟨rfl, b2⟩
        clear HM
        have B3 := b2.alloc b2.size (.cells (encWr ⟨false, 0, true, z0⟩).toArray 113)
        have K3 := Blk.new w2 113 (encWr ⟨false, 0, true, z0⟩)
        have hbw : wr.heap.size ≤ w2.heap.size := b2.size
        have HRD := hid (image3 (HS.out.below B3) (HC.out.tfr (ts := []) (.of_below B3) (by simp)) hbr ok HOK.out B ((HB.out.below HW.out HB.out.lt).below B3 (Nat.lt_of_lt_of_le HB.out.lt HW.out.size)))
        have K3 := hid K3
        have B3 := hid B3
        clear b2
        cases ok
        · go_wp2_with fail
          refine HRD.out.mono ?_
          rintro e w4 ⟨rfl, b4⟩
          have B4 := (bstep B3.out (Nat.le_refl _) b4).alloc (o := .cells #[.slice none 0 0, .slice none 0 0] 35) (Nat.le_trans B3.out.size b4.size)
          have K4 := (K3.out.below b4 (by simp)).alloc (.cells #[.slice none 0 0, .slice none 0 0] 35)
          have k41 : (w4.alloc (.cells #[.slice none 0 0, .slice none 0 0] 35)).cell? ⟨w2.heap.size, 1, none⟩ = some (.int .i64 0) := K4.cell 1
          have kf41 := K4.frozen 1
          have kl4 := K4.lt
          have K7 := hid (K4.set_ 1 (.int .i64 ((j : Int) + 1)))
          have B7 := hid (B4.setCell (p := ⟨w2.heap.size, 1, none⟩) hbw (.int .i64 ((j : Int) + 1)))
          have HSZ := hid B7.out.size
          have HBASE : Hid (∀ o, w.heap.size ≤ (((w4.alloc (.cells #[.slice none 0 0, .slice none 0 0] 35)).setCell ⟨w2.heap.size, 1, none⟩ (.int .i64 ((j : Int) + 1))).alloc o).heap.size) := by
            show ∀ o, _ ≤ _
            intro o
            have h1 := HW.out.size
            have h2 := HSZ.out
            simp at h2 ⊢
            omega
          clear B4 b4 K4 HRD K3 B3 hc
          go_wp2_with (first
            | (refine wpList_load_blk rfl 113 _ rfl w2.heap.size 113 [.bool false, .int .i64 ((j : Int) + 1), .bool true, .slice none 0 0, .slice none 0 0, .int .i64 0, .int .i64 0, .string ⟨#[]⟩, .float .f64 0] _ K7.out rfl Tryz.underlying113 rfl size_wr ?_)
            | (at_builtin
               refine wpList_append_all (by rfl) _ _ _ (by rfl) w.heap.size 113 i0 _ 9 112 Tryz.underlying58 hi0 hz0 hz1 hz2 rfl hpos A' cap' xs.length (encWrs xs) (by first | rfl | simp [Act.eval]) (own_tfr (ts := []) HR.out (.of_below (B7.out.alloc HSZ.out _)) (by simp)) (some ⟨(w4.alloc (.cells #[.slice none 0 0, .slice none 0 0] 35)).heap.size, 0, none⟩) 1 1 [.bool false, .int .i64 ((j : Int) + 1), .bool true, .slice none 0 0, .slice none 0 0, .int .i64 0, .int .i64 0, .string ⟨#[]⟩, .float .f64 0] (by first | rfl | simp [Act.eval]) (by rfl) (fun e => by cases e) (fun ad had => by cases had; exact news_any _ [.bool false, .int .i64 ((j : Int) + 1), .bool true, .slice none 0 0, .slice none 0 0, .int .i64 0, .int .i64 0, .string ⟨#[]⟩, .float .f64 0] _ _ (by simp)) (encWr_oneL ⟨false, (j : Int) + 1, true, z0⟩) (by unfold maxLen; omega) (by omega) (HBASE.out _) ?_
               intro A9 cap9 w9 hown9 hgrow9 hat9
               have R9 : Hid (WRow w9 w.heap.size A9 cap9 (xs ++ [⟨false, (j : Int) + 1, true, z0⟩])) := by
                 show World.ownsRow _ _ _ _ _ _ _
                 rw [encWrs_append, List.length_append]
                 exact hown9
               have B9 := hid ((HW.out.trans ((B7.out.alloc HSZ.out _).mono HW.out.size)).trans (grown_below (own_tfr (ts := []) HR.out (.of_below (B7.out.alloc HSZ.out _)) (by simp)) (HBASE.out _) hgrow9))
               clear hown9 hgrow9 hat9))
          have HS2 : Hid (wrsOf (fun l => (Cel.lastBy (Nod.doneBy d.c) l).isSome) (fun l => (Cel.lastBy (Nod.doneBy d.c) l).map fun _ => z0) (d.ns.take (j + 1)) = xs ++ [⟨false, (j : Int) + 1, true, z0⟩]) := by
            show _ = _
            rw [HSN.out, HMI.out]
            have := HOK.out
            simp [this]
            cases (Cel.lastBy (Nod.doneBy d.c) l) <;> rfl
          go_roundw
          case rel => exact ⟨j + 1, A9, cap9, xs ++ [⟨false, (j : Int) + 1, true, z0⟩], by omega, by go_num, by simp, by simp; omega, HS2, R9, B9⟩
          case measure => simp [intOf]; omega
        · go_wp2_with fail
          refine HRD.out.mono ?_
          rintro e w4 ⟨rfl, b4⟩
          go_wp2_with fail
          refine (ofNode_lit _).mono ?_
          rintro e w5 ⟨rfl, b5⟩
          have B4 := (bstep B3.out (Nat.le_refl _) b4).alloc (o := .cells #[.slice none 0 0, .slice none 0 0] 35) (Nat.le_trans B3.out.size b4.size)
          have B5 := bstep B4 (Nat.le_refl _) b5
          have K5 := (K3.out.below b4 (by simp)).below ((below_alloc w4 (.cells #[.slice none 0 0, .slice none 0 0] 35)).trans (b5.mono (by simp))) (by have := b4.size; simp at this; omega)
          have kl := K5.lt
          have HB5 := hid B5
          have HK5 := hid K5
          clear B4 b4 b5 B5 K5 HRD K3 B3 hc
          go_wp2_with (first
            | (refine wpList_store_blk rfl 113 _ _ rfl w2.heap.size 113 (encWr ⟨false, 0, true, z0⟩) [.bool false, .int .i64 0, .bool false, .slice none 0 0, .slice none 0 0, .int .i64 0, .int .i64 0, .string ⟨#[]⟩, .float .f64 0] HK5.out rfl rfl rfl size_wr (encWr_all ⟨false, 0, false, z0⟩) ?_
               intro w6 k6 f6
               have B6 := hid (HB5.out.trans (f6.below HB5.out.size (fun q hq => by
                 obtain rfl : q = w2.heap.size := by simpa using hq
                 exact hbw)))
               have k61 : w6.cell? ⟨w2.heap.size, 1, none⟩ = some (.int .i64 0) := k6.cell 1
               have kf61 := k6.frozen 1
               have kl6 := k6.lt
               have K7 := hid (k6.set_ 1 (.int .i64 ((j : Int) + 1)))
               have B7 := hid (B6.out.setCell (p := ⟨w2.heap.size, 1, none⟩) hbw (.int .i64 ((j : Int) + 1)))
               have HSZ := hid B7.out.size
               have HBASE : Hid (∀ o, w.heap.size ≤ ((w6.setCell ⟨w2.heap.size, 1, none⟩ (.int .i64 ((j : Int) + 1))).alloc o).heap.size) := by
                 show ∀ o, _ ≤ _
                 intro o
                 have h1 := HW.out.size
                 have h2 := HSZ.out
                 simp at h2 ⊢
                 omega
               clear k6 f6)
            | (refine wpList_load_blk rfl 113 _ rfl w2.heap.size 113 [.bool false, .int .i64 ((j : Int) + 1), .bool false, .slice none 0 0, .slice none 0 0, .int .i64 0, .int .i64 0, .string ⟨#[]⟩, .float .f64 0] _ K7.out rfl Tryz.underlying113 rfl size_wr ?_)
            | (at_builtin
               refine wpList_append_all (by rfl) _ _ _ (by rfl) w.heap.size 113 i0 _ 9 112 Tryz.underlying58 hi0 hz0 hz1 hz2 rfl hpos A' cap' xs.length (encWrs xs) (by first | rfl | simp [Act.eval]) (own_tfr (ts := []) HR.out (.of_below (B7.out.alloc HSZ.out _)) (by simp)) (some ⟨w6.heap.size, 0, none⟩) 1 1 [.bool false, .int .i64 ((j : Int) + 1), .bool false, .slice none 0 0, .slice none 0 0, .int .i64 0, .int .i64 0, .string ⟨#[]⟩, .float .f64 0] (by first | rfl | simp [Act.eval]) (by rfl) (fun e => by cases e) (fun ad had => by cases had; exact news_any _ [.bool false, .int .i64 ((j : Int) + 1), .bool false, .slice none 0 0, .slice none 0 0, .int .i64 0, .int .i64 0, .string ⟨#[]⟩, .float .f64 0] _ _ (by simp)) (encWr_oneL ⟨false, (j : Int) + 1, false, z0⟩) (by unfold maxLen; omega) (by omega) (HBASE.out _) ?_
               intro A9 cap9 w9 hown9 hgrow9 hat9
               have R9 : Hid (WRow w9 w.heap.size A9 cap9 (xs ++ [⟨false, (j : Int) + 1, false, z0⟩])) := by
                 show World.ownsRow _ _ _ _ _ _ _
                 rw [encWrs_append, List.length_append]
                 exact hown9
               have B9 := hid ((HW.out.trans ((B7.out.alloc HSZ.out _).mono HW.out.size)).trans (grown_below (own_tfr (ts := []) HR.out (.of_below (B7.out.alloc HSZ.out _)) (by simp)) (HBASE.out _) hgrow9))
               clear hown9 hgrow9 hat9))
          have HS2 : Hid (wrsOf (fun l => (Cel.lastBy (Nod.doneBy d.c) l).isSome) (fun l => (Cel.lastBy (Nod.doneBy d.c) l).map fun _ => z0) (d.ns.take (j + 1)) = xs ++ [⟨false, (j : Int) + 1, false, z0⟩]) := by
            show _ = _
            rw [HSN.out, HMI.out]
            have := HOK.out
            simp [this]
            cases (Cel.lastBy (Nod.doneBy d.c) l) <;> rfl
          go_roundw
          case rel => exact ⟨j + 1, A9, cap9, xs ++ [⟨false, (j : Int) + 1, false, z0⟩], by omega, by go_num, by simp, by simp; omega, HS2, R9, B9⟩
          case measure => simp [intOf]; omega
    · obtain rfl : j = d.ns.length := by omega
      have hX := HX.out
      rw [List.take_length] at hX
      subst hX
      go_wp2_with fail
      go_ret
      exact ⟨A', cap', rfl, HR.out, HW.out⟩
set_option maxHeartbeats 4000000 in
set_option maxRecDepth 100000 in
theorem image_edges (h : StoA O w s p d) (hn : d.es.length ≤ 1000) (B : Nat) (hB : Blk w B 56 [pt s]) :
    Calls Tryz.prog 40 #[.slice p.eA d.es.length p.ec, .func (.func 35) #[] #[pt B], .func (.func 41) #[] #[pt B], .func (.func 42) #[] #[]] w fun e w' => ∃ A' cap', e = .returned (.slice A' (wrsOf (fun l => (Cel.lastBy (Edg.doneBy d.c) l).isSome) (fun l => Cel.lastBy (Edg.doneBy d.c) l) d.es).length cap') ∧ WRow w' w.heap.size A' cap' (wrsOf (fun l => (Cel.lastBy (Edg.doneBy d.c) l).isSome) (fun l => Cel.lastBy (Edg.doneBy d.c) l) d.es) ∧ Below w.heap.size w w' := by
  obtain ⟨i0, hi0, hz0, hz1, hz2⟩ := info_parts info_wr
  have hpos : 0 < 9 := by omega
  have HH := hid h
  have HN := hid hn
  have HB := hid hB
  obtain ⟨NA, hNA⟩ : ∃ A, p.eA = A := ⟨_, rfl⟩
  rw [hNA]
  have HNA := hid hNA
  have hnI : (d.es.length : Int) ≤ 1000 := by omega
  clear h hn hNA
  go_enter Tryz.func40, Tryz.ntmps40
  go_wp2_with fail
  go_loopw [9, 17] (fun o v wr => ∃ (j : Nat) (A' : Option Addr) (cap' : Nat) (xs : List Wr), j ≤ d.es.length ∧ v = .int .i64 (j : Int) ∧ o = .slice A' xs.length cap' ∧ xs.length ≤ j ∧ Hid (wrsOf (fun l => (Cel.lastBy (Edg.doneBy d.c) l).isSome) (fun l => Cel.lastBy (Edg.doneBy d.c) l) (d.es.take j) = xs) ∧ Hid (WRow wr w.heap.size A' cap' xs) ∧ Hid (Below w.heap.size w wr)) (fun _ v _ => d.es.length - (intOf v).toNat)
  case atStart => exact ⟨0, none, 0, [], Nat.zero_le _, rfl, rfl, Nat.le_refl _, rfl, World.ownsRow_nil _ _ _ _, Below.refl _ _⟩
  case round =>
    obtain ⟨j, A', cap', xs, hj, rfl, rfl, hxj, HX, HR, HW⟩ := hrel
    by_cases hlt : j < d.es.length
    · obtain ⟨l, hl⟩ : ∃ l, d.es[j]? = some l := ⟨_, List.getElem?_eq_getElem hlt⟩
      have HS := hid (HH.out.below HW.out)
      have hSN := wrsOf_snoc (fun l => (Cel.lastBy (Edg.doneBy d.c) l).isSome) (fun l => Cel.lastBy (Edg.doneBy d.c) l) d.es j l hl
      rw [HX.out] at hSN
      have HSN := hid hSN
      obtain ⟨X, S, hX, hC, _⟩ := HS.out.onEdge hl
      obtain ⟨g, hA, hc, _, _, _, _⟩ := HS.out.erow.get (i := j) (v := pt X) (by rw [List.getElem?_map, hX]; rfl)
      rw [HNA.out] at hA
      subst hA
      obtain ⟨v, hv⟩ : ∃ v, (Cel.lastBy (Edg.doneBy d.c) l).getD z0 = v := ⟨_, rfl⟩
      have HVV := hid hv
      clear hv
      have HC := hid hC
      have hjI : (j : Int) < (d.es.length : Int) := by omega
      have hj0 : (0 : Int) ≤ (j : Int) := by omega
      obtain ⟨mi, hmi⟩ : ∃ m, (Cel.lastBy (Edg.doneBy d.c) l).isSome = m := ⟨_, rfl⟩
      have HMI := hid hmi
      obtain ⟨ok, hok⟩ : ∃ m, ((Cel.lastBy (Edg.doneBy d.c) l)).isSome = m := ⟨_, rfl⟩
      have HOK := hid hok
      have HM := hid (image2 HS.out HC.out mi hmi B (HB.out.below HW.out HB.out.lt))
      clear hX hC hl hSN hmi hok
      cases mi
      · go_wp2_with fail
        refine HM.out.mono ?_
        rintro e w2 ⟨rfl, b2⟩
        have B2 := hid (bstep HW.out (Nat.le_refl _) b2)
        have R2 : Hid (WRow w2 w.heap.size A' cap' xs) := own_tfr (ts := []) HR.out (.of_below b2) (by simp)
        clear b2 HM hc
        go_wp2_with fail
        go_roundw
        case rel => exact ⟨j + 1, A', cap', xs, by omega, by go_num, rfl, by omega, by show _ = _; rw [HSN.out, HMI.out]; simp, R2, B2⟩
        case measure => simp [intOf]; omega
      · go_wp2_with fail
        refine HM.out.mono ?_
        rintro e w2 ⟨rfl, b2⟩
        clear HM
        have B3 := b2.alloc b2.size (.cells (encWr ⟨false, 0, true, z0⟩).toArray 113)
        have K3 := Blk.new w2 113 (encWr ⟨false, 0, true, z0⟩)
        have hbw : wr.heap.size ≤ w2.heap.size := b2.size
        have HRD := hid (image4 (HS.out.below B3) (HC.out.tfr (ts := []) (.of_below B3) (by simp)) v ok HVV.out HOK.out B ((HB.out.below HW.out HB.out.lt).below B3 (Nat.lt_of_lt_of_le HB.out.lt HW.out.size)))
        have K3 := hid K3
        have B3 := hid B3
        clear b2
        cases ok
        · go_wp2_with fail
          refine HRD.out.mono ?_
          rintro e w4 ⟨rfl, b4⟩
          have B4 := (bstep B3.out (Nat.le_refl _) b4).alloc (o := .cells #[.int .i64 v.src, .int .i64 v.dst, .string v.ty, .float .f64 v.w] 38) (Nat.le_trans B3.out.size b4.size)
          have K4 := (K3.out.below b4 (by simp)).alloc (.cells #[.int .i64 v.src, .int .i64 v.dst, .string v.ty, .float .f64 v.w] 38)
          have k41 : (w4.alloc (.cells #[.int .i64 v.src, .int .i64 v.dst, .string v.ty, .float .f64 v.w] 38)).cell? ⟨w2.heap.size, 1, none⟩ = some (.int .i64 0) := K4.cell 1
          have kf41 := K4.frozen 1
          have kl4 := K4.lt
          have K7 := hid (K4.set_ 1 (.int .i64 ((j : Int) + 1)))
          have B7 := hid (B4.setCell (p := ⟨w2.heap.size, 1, none⟩) hbw (.int .i64 ((j : Int) + 1)))
          have HSZ := hid B7.out.size
          have HBASE : Hid (∀ o, w.heap.size ≤ (((w4.alloc (.cells #[.int .i64 v.src, .int .i64 v.dst, .string v.ty, .float .f64 v.w] 38)).setCell ⟨w2.heap.size, 1, none⟩ (.int .i64 ((j : Int) + 1))).alloc o).heap.size) := by
            show ∀ o, _ ≤ _
            intro o
            have h1 := HW.out.size
            have h2 := HSZ.out
            simp at h2 ⊢
            omega
          clear B4 b4 K4 HRD K3 B3 hc
          go_wp2_with (first
            | (refine wpList_load_blk rfl 113 _ rfl w2.heap.size 113 [.bool false, .int .i64 ((j : Int) + 1), .bool true, .slice none 0 0, .slice none 0 0, .int .i64 0, .int .i64 0, .string ⟨#[]⟩, .float .f64 0] _ K7.out rfl Tryz.underlying113 rfl size_wr ?_)
            | (at_builtin
               refine wpList_append_all (by rfl) _ _ _ (by rfl) w.heap.size 113 i0 _ 9 112 Tryz.underlying58 hi0 hz0 hz1 hz2 rfl hpos A' cap' xs.length (encWrs xs) (by first | rfl | simp [Act.eval]) (own_tfr (ts := []) HR.out (.of_below (B7.out.alloc HSZ.out _)) (by simp)) (some ⟨(w4.alloc (.cells #[.int .i64 v.src, .int .i64 v.dst, .string v.ty, .float .f64 v.w] 38)).heap.size, 0, none⟩) 1 1 [.bool false, .int .i64 ((j : Int) + 1), .bool true, .slice none 0 0, .slice none 0 0, .int .i64 0, .int .i64 0, .string ⟨#[]⟩, .float .f64 0] (by first | rfl | simp [Act.eval]) (by rfl) (fun e => by cases e) (fun ad had => by cases had; exact news_any _ [.bool false, .int .i64 ((j : Int) + 1), .bool true, .slice none 0 0, .slice none 0 0, .int .i64 0, .int .i64 0, .string ⟨#[]⟩, .float .f64 0] _ _ (by simp)) (encWr_oneL ⟨false, (j : Int) + 1, true, z0⟩) (by unfold maxLen; omega) (by omega) (HBASE.out _) ?_
               intro A9 cap9 w9 hown9 hgrow9 hat9
               have R9 : Hid (WRow w9 w.heap.size A9 cap9 (xs ++ [⟨false, (j : Int) + 1, true, z0⟩])) := by
                 show World.ownsRow _ _ _ _ _ _ _
                 rw [encWrs_append, List.length_append]
                 exact hown9
               have B9 := hid ((HW.out.trans ((B7.out.alloc HSZ.out _).mono HW.out.size)).trans (grown_below (own_tfr (ts := []) HR.out (.of_below (B7.out.alloc HSZ.out _)) (by simp)) (HBASE.out _) hgrow9))
               clear hown9 hgrow9 hat9))
          have HS2 : Hid (wrsOf (fun l => (Cel.lastBy (Edg.doneBy d.c) l).isSome) (fun l => Cel.lastBy (Edg.doneBy d.c) l) (d.es.take (j + 1)) = xs ++ [⟨false, (j : Int) + 1, true, z0⟩]) := by
            show _ = _
            rw [HSN.out, HMI.out]
            have := HOK.out
            have h3 := HMI.out
            rw [this] at h3
            cases h3
          go_roundw
          case rel => exact ⟨j + 1, A9, cap9, xs ++ [⟨false, (j : Int) + 1, true, z0⟩], by omega, by go_num, by simp, by simp; omega, HS2, R9, B9⟩
          case measure => simp [intOf]; omega
        · go_wp2_with fail
          refine HRD.out.mono ?_
          rintro e w4 ⟨rfl, b4⟩
          go_wp2_with fail
          refine (ofEdge_lit _ v).mono ?_
          rintro e w5 ⟨rfl, b5⟩
          have B4 := (bstep B3.out (Nat.le_refl _) b4).alloc (o := .cells #[.int .i64 v.src, .int .i64 v.dst, .string v.ty, .float .f64 v.w] 38) (Nat.le_trans B3.out.size b4.size)
          have B5 := bstep B4 (Nat.le_refl _) b5
          have K5 := (K3.out.below b4 (by simp)).below ((below_alloc w4 (.cells #[.int .i64 v.src, .int .i64 v.dst, .string v.ty, .float .f64 v.w] 38)).trans (b5.mono (by simp))) (by have := b4.size; simp at this; omega)
          have kl := K5.lt
          have HB5 := hid B5
          have HK5 := hid K5
          clear B4 b4 b5 B5 K5 HRD K3 B3 hc
          go_wp2_with (first
            | (refine wpList_store_blk rfl 113 _ _ rfl w2.heap.size 113 (encWr ⟨false, 0, true, z0⟩) [.bool false, .int .i64 0, .bool false, .slice none 0 0, .slice none 0 0, .int .i64 v.src, .int .i64 v.dst, .string v.ty, .float .f64 v.w] HK5.out rfl rfl rfl size_wr (encWr_all ⟨false, 0, false, v⟩) ?_
               intro w6 k6 f6
               have B6 := hid (HB5.out.trans (f6.below HB5.out.size (fun q hq => by
                 obtain rfl : q = w2.heap.size := by simpa using hq
                 exact hbw)))
               have k61 : w6.cell? ⟨w2.heap.size, 1, none⟩ = some (.int .i64 0) := k6.cell 1
               have kf61 := k6.frozen 1
               have kl6 := k6.lt
               have K7 := hid (k6.set_ 1 (.int .i64 ((j : Int) + 1)))
               have B7 := hid (B6.out.setCell (p := ⟨w2.heap.size, 1, none⟩) hbw (.int .i64 ((j : Int) + 1)))
               have HSZ := hid B7.out.size
               have HBASE : Hid (∀ o, w.heap.size ≤ ((w6.setCell ⟨w2.heap.size, 1, none⟩ (.int .i64 ((j : Int) + 1))).alloc o).heap.size) := by
                 show ∀ o, _ ≤ _
                 intro o
                 have h1 := HW.out.size
                 have h2 := HSZ.out
                 simp at h2 ⊢
                 omega
               clear k6 f6)
            | (refine wpList_load_blk rfl 113 _ rfl w2.heap.size 113 [.bool false, .int .i64 ((j : Int) + 1), .bool false, .slice none 0 0, .slice none 0 0, .int .i64 v.src, .int .i64 v.dst, .string v.ty, .float .f64 v.w] _ K7.out rfl Tryz.underlying113 rfl size_wr ?_)
            | (at_builtin
               refine wpList_append_all (by rfl) _ _ _ (by rfl) w.heap.size 113 i0 _ 9 112 Tryz.underlying58 hi0 hz0 hz1 hz2 rfl hpos A' cap' xs.length (encWrs xs) (by first | rfl | simp [Act.eval]) (own_tfr (ts := []) HR.out (.of_below (B7.out.alloc HSZ.out _)) (by simp)) (some ⟨w6.heap.size, 0, none⟩) 1 1 [.bool false, .int .i64 ((j : Int) + 1), .bool false, .slice none 0 0, .slice none 0 0, .int .i64 v.src, .int .i64 v.dst, .string v.ty, .float .f64 v.w] (by first | rfl | simp [Act.eval]) (by rfl) (fun e => by cases e) (fun ad had => by cases had; exact news_any _ [.bool false, .int .i64 ((j : Int) + 1), .bool false, .slice none 0 0, .slice none 0 0, .int .i64 v.src, .int .i64 v.dst, .string v.ty, .float .f64 v.w] _ _ (by simp)) (encWr_oneL ⟨false, (j : Int) + 1, false, v⟩) (by unfold maxLen; omega) (by omega) (HBASE.out _) ?_
               intro A9 cap9 w9 hown9 hgrow9 hat9
               have R9 : Hid (WRow w9 w.heap.size A9 cap9 (xs ++ [⟨false, (j : Int) + 1, false, v⟩])) := by
                 show World.ownsRow _ _ _ _ _ _ _
                 rw [encWrs_append, List.length_append]
                 exact hown9
               have B9 := hid ((HW.out.trans ((B7.out.alloc HSZ.out _).mono HW.out.size)).trans (grown_below (own_tfr (ts := []) HR.out (.of_below (B7.out.alloc HSZ.out _)) (by simp)) (HBASE.out _) hgrow9))
               clear hown9 hgrow9 hat9))
          have HS2 : Hid (wrsOf (fun l => (Cel.lastBy (Edg.doneBy d.c) l).isSome) (fun l => Cel.lastBy (Edg.doneBy d.c) l) (d.es.take (j + 1)) = xs ++ [⟨false, (j : Int) + 1, false, v⟩]) := by
            show _ = _
            rw [HSN.out, HMI.out]
            have := HOK.out
            simp [HVV.out]
          go_roundw
          case rel => exact ⟨j + 1, A9, cap9, xs ++ [⟨false, (j : Int) + 1, false, v⟩], by omega, by go_num, by simp, by simp; omega, HS2, R9, B9⟩
          case measure => simp [intOf]; omega
    · obtain rfl : j = d.es.length := by omega
      have hX := HX.out
      rw [List.take_length] at hX
      subst hX
      go_wp2_with fail
      go_ret
      exact ⟨A', cap', rfl, HR.out, HW.out⟩
set_option maxHeartbeats 4000000 in
set_option maxRecDepth 100000 in
theorem pending_nodes (h : StoA O w s p d) (hn : d.ns.length ≤ 1000) (t : Int) (B B' : Nat) (hB : Blk w B 56 [pt s]) (hB' : Blk w B' 3 [.int .i64 t]) :
    Calls Tryz.prog 37 #[.slice p.nA d.ns.length p.nc, .func (.func 202) #[] #[pt B'], .func (.func 204) #[] #[pt B, pt B'], .func (.func 39) #[] #[]] w fun e w' => ∃ A' cap', e = .returned (.slice A' (wrsOf (fun l => l.any fun y => y.who == t) (fun l => (Cel.lastBy (d.c.sees t) l).map fun _ => z0) d.ns).length cap') ∧ WRow w' w.heap.size A' cap' (wrsOf (fun l => l.any fun y => y.who == t) (fun l => (Cel.lastBy (d.c.sees t) l).map fun _ => z0) d.ns) ∧ Below w.heap.size w w' := by
  obtain ⟨i0, hi0, hz0, hz1, hz2⟩ := info_parts info_wr
  have hpos : 0 < 9 := by omega
  have HH := hid h
  have HN := hid hn
  have HB := hid hB
  have HB' := hid hB'
  obtain ⟨NA, hNA⟩ : ∃ A, p.nA = A := ⟨_, rfl⟩
  rw [hNA]
  have HNA := hid hNA
  have hnI : (d.ns.length : Int) ≤ 1000 := by omega
  clear h hn hNA
  go_enter Tryz.func37, Tryz.ntmps37
  go_wp2_with fail
  go_loopw [9, 17] (fun o v wr => ∃ (j : Nat) (A' : Option Addr) (cap' : Nat) (xs : List Wr), j ≤ d.ns.length ∧ v = .int .i64 (j : Int) ∧ o = .slice A' xs.length cap' ∧ xs.length ≤ j ∧ Hid (wrsOf (fun l => l.any fun y => y.who == t) (fun l => (Cel.lastBy (d.c.sees t) l).map fun _ => z0) (d.ns.take j) = xs) ∧ Hid (WRow wr w.heap.size A' cap' xs) ∧ Hid (Below w.heap.size w wr)) (fun _ v _ => d.ns.length - (intOf v).toNat)
  case atStart => exact ⟨0, none, 0, [], Nat.zero_le _, rfl, rfl, Nat.le_refl _, rfl, World.ownsRow_nil _ _ _ _, Below.refl _ _⟩
  case round =>
    obtain ⟨j, A', cap', xs, hj, rfl, rfl, hxj, HX, HR, HW⟩ := hrel
    by_cases hlt : j < d.ns.length
    · obtain ⟨l, hl⟩ : ∃ l, d.ns[j]? = some l := ⟨_, List.getElem?_eq_getElem hlt⟩
      have HS := hid (HH.out.below HW.out)
      have hSN := wrsOf_snoc (fun l => l.any fun y => y.who == t) (fun l => (Cel.lastBy (d.c.sees t) l).map fun _ => z0) d.ns j l hl
      rw [HX.out] at hSN
      have HSN := hid hSN
      obtain ⟨X, S, hX, hC, _⟩ := HS.out.onNode hl
      obtain ⟨g, hA, hc, _, _, _, _⟩ := HS.out.nrow.get (i := j) (v := pt X) (by rw [List.getElem?_map, hX]; rfl)
      rw [HNA.out] at hA
      subst hA
      have hbr := HS.out.bare l (List.mem_of_getElem? hl)
      have HC := hid hC
      have hjI : (j : Int) < (d.ns.length : Int) := by omega
      have hj0 : (0 : Int) ≤ (j : Int) := by omega
      obtain ⟨mi, hmi⟩ : ∃ m, (l.any fun y => y.who == t) = m := ⟨_, rfl⟩
      have HMI := hid hmi
      obtain ⟨ok, hok⟩ : ∃ m, ((Cel.lastBy (d.c.sees t) l)).isSome = m := ⟨_, rfl⟩
      have HOK := hid hok
      have HM := hid (pending1 HS.out HC.out t mi hmi B' (HB'.out.below HW.out HB'.out.lt))
      clear hX hC hl hSN hmi hok
      cases mi
      · go_wp2_with fail
        refine HM.out.mono ?_
        rintro e w2 ⟨rfl, b2⟩
        have B2 := hid (bstep HW.out (Nat.le_refl _) b2)
        have R2 : Hid (WRow w2 w.heap.size A' cap' xs) := own_tfr (ts := []) HR.out (.of_below b2) (by simp)
        clear b2 HM hc
        go_wp2_with fail
        go_roundw
        case rel => exact ⟨j + 1, A', cap', xs, by omega, by go_num, rfl, by omega, by show _ = _; rw [HSN.out, HMI.out]; simp, R2, B2⟩
        case measure => simp [intOf]; omega
      · go_wp2_with fail
        refine HM.out.mono ?_
        rintro e w2 ⟨rfl, b2⟩
        clear HM
        have B3 := b2.alloc b2.size (.cells (encWr ⟨false, 0, true, z0⟩).toArray 113)
        have K3 := Blk.new w2 113 (encWr ⟨false, 0, true, z0⟩)
        have hbw : wr.heap.size ≤ w2.heap.size := b2.size
        have HRD := hid (pending2 (HS.out.below B3) (HC.out.tfr (ts := []) (.of_below B3) (by simp)) hbr t ok HOK.out B B' ((HB.out.below HW.out HB.out.lt).below B3 (Nat.lt_of_lt_of_le HB.out.lt HW.out.size)) ((HB'.out.below HW.out HB'.out.lt).below B3 (Nat.lt_of_lt_of_le HB'.out.lt HW.out.size)))
        have K3 := hid K3
        have B3 := hid B3
        clear b2
        cases ok
        · go_wp2_with fail
          refine HRD.out.mono ?_
          rintro e w4 ⟨rfl, b4⟩
          have B4 := (bstep B3.out (Nat.le_refl _) b4).alloc (o := .cells #[.slice none 0 0, .slice none 0 0] 35) (Nat.le_trans B3.out.size b4.size)
          have K4 := (K3.out.below b4 (by simp)).alloc (.cells #[.slice none 0 0, .slice none 0 0] 35)
          have k41 : (w4.alloc (.cells #[.slice none 0 0, .slice none 0 0] 35)).cell? ⟨w2.heap.size, 1, none⟩ = some (.int .i64 0) := K4.cell 1
          have kf41 := K4.frozen 1
          have kl4 := K4.lt
          have K7 := hid (K4.set_ 1 (.int .i64 ((j : Int) + 1)))
          have B7 := hid (B4.setCell (p := ⟨w2.heap.size, 1, none⟩) hbw (.int .i64 ((j : Int) + 1)))
          have HSZ := hid B7.out.size
          have HBASE : Hid (∀ o, w.heap.size ≤ (((w4.alloc (.cells #[.slice none 0 0, .slice none 0 0] 35)).setCell ⟨w2.heap.size, 1, none⟩ (.int .i64 ((j : Int) + 1))).alloc o).heap.size) := by
            show ∀ o, _ ≤ _
            intro o
            have h1 := HW.out.size
            have h2 := HSZ.out
            simp at h2 ⊢
            omega
          clear B4 b4 K4 HRD K3 B3 hc
          go_wp2_with (first
            | (refine wpList_load_blk rfl 113 _ rfl w2.heap.size 113 [.bool false, .int .i64 ((j : Int) + 1), .bool true, .slice none 0 0, .slice none 0 0, .int .i64 0, .int .i64 0, .string ⟨#[]⟩, .float .f64 0] _ K7.out rfl Tryz.underlying113 rfl size_wr ?_)
            | (at_builtin
               refine wpList_append_all (by rfl) _ _ _ (by rfl) w.heap.size 113 i0 _ 9 112 Tryz.underlying58 hi0 hz0 hz1 hz2 rfl hpos A' cap' xs.length (encWrs xs) (by first | rfl | simp [Act.eval]) (own_tfr (ts := []) HR.out (.of_below (B7.out.alloc HSZ.out _)) (by simp)) (some ⟨(w4.alloc (.cells #[.slice none 0 0, .slice none 0 0] 35)).heap.size, 0, none⟩) 1 1 [.bool false, .int .i64 ((j : Int) + 1), .bool true, .slice none 0 0, .slice none 0 0, .int .i64 0, .int .i64 0, .string ⟨#[]⟩, .float .f64 0] (by first | rfl | simp [Act.eval]) (by rfl) (fun e => by cases e) (fun ad had => by cases had; exact news_any _ [.bool false, .int .i64 ((j : Int) + 1), .bool true, .slice none 0 0, .slice none 0 0, .int .i64 0, .int .i64 0, .string ⟨#[]⟩, .float .f64 0] _ _ (by simp)) (encWr_oneL ⟨false, (j : Int) + 1, true, z0⟩) (by unfold maxLen; omega) (by omega) (HBASE.out _) ?_
               intro A9 cap9 w9 hown9 hgrow9 hat9
               have R9 : Hid (WRow w9 w.heap.size A9 cap9 (xs ++ [⟨false, (j : Int) + 1, true, z0⟩])) := by
                 show World.ownsRow _ _ _ _ _ _ _
                 rw [encWrs_append, List.length_append]
                 exact hown9
               have B9 := hid ((HW.out.trans ((B7.out.alloc HSZ.out _).mono HW.out.size)).trans (grown_below (own_tfr (ts := []) HR.out (.of_below (B7.out.alloc HSZ.out _)) (by simp)) (HBASE.out _) hgrow9))
               clear hown9 hgrow9 hat9))
          have HS2 : Hid (wrsOf (fun l => l.any fun y => y.who == t) (fun l => (Cel.lastBy (d.c.sees t) l).map fun _ => z0) (d.ns.take (j + 1)) = xs ++ [⟨false, (j : Int) + 1, true, z0⟩]) := by
            show _ = _
            rw [HSN.out, HMI.out]
            have := HOK.out
            simp [this]
            cases (Cel.lastBy (d.c.sees t) l) <;> rfl
          go_roundw
          case rel => exact ⟨j + 1, A9, cap9, xs ++ [⟨false, (j : Int) + 1, true, z0⟩], by omega, by go_num, by simp, by simp; omega, HS2, R9, B9⟩
          case measure => simp [intOf]; omega
        · go_wp2_with fail
          refine HRD.out.mono ?_
          rintro e w4 ⟨rfl, b4⟩
          go_wp2_with fail
          refine (ofNode_lit _).mono ?_
          rintro e w5 ⟨rfl, b5⟩
          have B4 := (bstep B3.out (Nat.le_refl _) b4).alloc (o := .cells #[.slice none 0 0, .slice none 0 0] 35) (Nat.le_trans B3.out.size b4.size)
          have B5 := bstep B4 (Nat.le_refl _) b5
          have K5 := (K3.out.below b4 (by simp)).below ((below_alloc w4 (.cells #[.slice none 0 0, .slice none 0 0] 35)).trans (b5.mono (by simp))) (by have := b4.size; simp at this; omega)
          have kl := K5.lt
          have HB5 := hid B5
          have HK5 := hid K5
          clear B4 b4 b5 B5 K5 HRD K3 B3 hc
          go_wp2_with (first
            | (refine wpList_store_blk rfl 113 _ _ rfl w2.heap.size 113 (encWr ⟨false, 0, true, z0⟩) [.bool false, .int .i64 0, .bool false, .slice none 0 0, .slice none 0 0, .int .i64 0, .int .i64 0, .string ⟨#[]⟩, .float .f64 0] HK5.out rfl rfl rfl size_wr (encWr_all ⟨false, 0, false, z0⟩) ?_
               intro w6 k6 f6
               have B6 := hid (HB5.out.trans (f6.below HB5.out.size (fun q hq => by
                 obtain rfl : q = w2.heap.size := by simpa using hq
                 exact hbw)))
               have k61 : w6.cell? ⟨w2.heap.size, 1, none⟩ = some (.int .i64 0) := k6.cell 1
               have kf61 := k6.frozen 1
               have kl6 := k6.lt
               have K7 := hid (k6.set_ 1 (.int .i64 ((j : Int) + 1)))
               have B7 := hid (B6.out.setCell (p := ⟨w2.heap.size, 1, none⟩) hbw (.int .i64 ((j : Int) + 1)))
               have HSZ := hid B7.out.size
               have HBASE : Hid (∀ o, w.heap.size ≤ ((w6.setCell ⟨w2.heap.size, 1, none⟩ (.int .i64 ((j : Int) + 1))).alloc o).heap.size) := by
                 show ∀ o, _ ≤ _
                 intro o
                 have h1 := HW.out.size
                 have h2 := HSZ.out
                 simp at h2 ⊢
                 omega
               clear k6 f6)
            | (refine wpList_load_blk rfl 113 _ rfl w2.heap.size 113 [.bool false, .int .i64 ((j : Int) + 1), .bool false, .slice none 0 0, .slice none 0 0, .int .i64 0, .int .i64 0, .string ⟨#[]⟩, .float .f64 0] _ K7.out rfl Tryz.underlying113 rfl size_wr ?_)
            | (at_builtin
               refine wpList_append_all (by rfl) _ _ _ (by rfl) w.heap.size 113 i0 _ 9 112 Tryz.underlying58 hi0 hz0 hz1 hz2 rfl hpos A' cap' xs.length (encWrs xs) (by first | rfl | simp [Act.eval]) (own_tfr (ts := []) HR.out (.of_below (B7.out.alloc HSZ.out _)) (by simp)) (some ⟨w6.heap.size, 0, none⟩) 1 1 [.bool false, .int .i64 ((j : Int) + 1), .bool false, .slice none 0 0, .slice none 0 0, .int .i64 0, .int .i64 0, .string ⟨#[]⟩, .float .f64 0] (by first | rfl | simp [Act.eval]) (by rfl) (fun e => by cases e) (fun ad had => by cases had; exact news_any _ [.bool false, .int .i64 ((j : Int) + 1), .bool false, .slice none 0 0, .slice none 0 0, .int .i64 0, .int .i64 0, .string ⟨#[]⟩, .float .f64 0] _ _ (by simp)) (encWr_oneL ⟨false, (j : Int) + 1, false, z0⟩) (by unfold maxLen; omega) (by omega) (HBASE.out _) ?_
               intro A9 cap9 w9 hown9 hgrow9 hat9
               have R9 : Hid (WRow w9 w.heap.size A9 cap9 (xs ++ [⟨false, (j : Int) + 1, false, z0⟩])) := by
                 show World.ownsRow _ _ _ _ _ _ _
                 rw [encWrs_append, List.length_append]
                 exact hown9
               have B9 := hid ((HW.out.trans ((B7.out.alloc HSZ.out _).mono HW.out.size)).trans (grown_below (own_tfr (ts := []) HR.out (.of_below (B7.out.alloc HSZ.out _)) (by simp)) (HBASE.out _) hgrow9))
               clear hown9 hgrow9 hat9))
          have HS2 : Hid (wrsOf (fun l => l.any fun y => y.who == t) (fun l => (Cel.lastBy (d.c.sees t) l).map fun _ => z0) (d.ns.take (j + 1)) = xs ++ [⟨false, (j : Int) + 1, false, z0⟩]) := by
            show _ = _
            rw [HSN.out, HMI.out]
            have := HOK.out
            simp [this]
            cases (Cel.lastBy (d.c.sees t) l) <;> rfl
          go_roundw
          case rel => exact ⟨j + 1, A9, cap9, xs ++ [⟨false, (j : Int) + 1, false, z0⟩], by omega, by go_num, by simp, by simp; omega, HS2, R9, B9⟩
          case measure => simp [intOf]; omega
    · obtain rfl : j = d.ns.length := by omega
      have hX := HX.out
      rw [List.take_length] at hX
      subst hX
      go_wp2_with fail
      go_ret
      exact ⟨A', cap', rfl, HR.out, HW.out⟩
set_option maxHeartbeats 4000000 in
set_option maxRecDepth 100000 in
theorem pending_edges (h : StoA O w s p d) (hn : d.es.length ≤ 1000) (t : Int) (B B' : Nat) (hB : Blk w B 56 [pt s]) (hB' : Blk w B' 3 [.int .i64 t]) :
    Calls Tryz.prog 40 #[.slice p.eA d.es.length p.ec, .func (.func 206) #[] #[pt B'], .func (.func 208) #[] #[pt B, pt B'], .func (.func 42) #[] #[]] w fun e w' => ∃ A' cap', e = .returned (.slice A' (wrsOf (fun l => l.any fun y => y.who == t) (fun l => Cel.lastBy (d.c.sees t) l) d.es).length cap') ∧ WRow w' w.heap.size A' cap' (wrsOf (fun l => l.any fun y => y.who == t) (fun l => Cel.lastBy (d.c.sees t) l) d.es) ∧ Below w.heap.size w w' := by
  obtain ⟨i0, hi0, hz0, hz1, hz2⟩ := info_parts info_wr
  have hpos : 0 < 9 := by omega
  have HH := hid h
  have HN := hid hn
  have HB := hid hB
  have HB' := hid hB'
  obtain ⟨NA, hNA⟩ : ∃ A, p.eA = A := ⟨_, rfl⟩
  rw [hNA]
  have HNA := hid hNA
  have hnI : (d.es.length : Int) ≤ 1000 := by omega
  clear h hn hNA
  go_enter Tryz.func40, Tryz.ntmps40
  go_wp2_with fail
  go_loopw [9, 17] (fun o v wr => ∃ (j : Nat) (A' : Option Addr) (cap' : Nat) (xs : List Wr), j ≤ d.es.length ∧ v = .int .i64 (j : Int) ∧ o = .slice A' xs.length cap' ∧ xs.length ≤ j ∧ Hid (wrsOf (fun l => l.any fun y => y.who == t) (fun l => Cel.lastBy (d.c.sees t) l) (d.es.take j) = xs) ∧ Hid (WRow wr w.heap.size A' cap' xs) ∧ Hid (Below w.heap.size w wr)) (fun _ v _ => d.es.length - (intOf v).toNat)
  case atStart => exact ⟨0, none, 0, [], Nat.zero_le _, rfl, rfl, Nat.le_refl _, rfl, World.ownsRow_nil _ _ _ _, Below.refl _ _⟩
  case round =>
    obtain ⟨j, A', cap', xs, hj, rfl, rfl, hxj, HX, HR, HW⟩ := hrel
    by_cases hlt : j < d.es.length
    · obtain ⟨l, hl⟩ : ∃ l, d.es[j]? = some l := ⟨_, List.getElem?_eq_getElem hlt⟩
      have HS := hid (HH.out.below HW.out)
      have hSN := wrsOf_snoc (fun l => l.any fun y => y.who == t) (fun l => Cel.lastBy (d.c.sees t) l) d.es j l hl
      rw [HX.out] at hSN
      have HSN := hid hSN
      obtain ⟨X, S, hX, hC, _⟩ := HS.out.onEdge hl
      obtain ⟨g, hA, hc, _, _, _, _⟩ := HS.out.erow.get (i := j) (v := pt X) (by rw [List.getElem?_map, hX]; rfl)
      rw [HNA.out] at hA
      subst hA
      obtain ⟨v, hv⟩ : ∃ v, (Cel.lastBy (d.c.sees t) l).getD z0 = v := ⟨_, rfl⟩
      have HVV := hid hv
      clear hv
      have HC := hid hC
      have hjI : (j : Int) < (d.es.length : Int) := by omega
      have hj0 : (0 : Int) ≤ (j : Int) := by omega
      obtain ⟨mi, hmi⟩ : ∃ m, (l.any fun y => y.who == t) = m := ⟨_, rfl⟩
      have HMI := hid hmi
      obtain ⟨ok, hok⟩ : ∃ m, ((Cel.lastBy (d.c.sees t) l)).isSome = m := ⟨_, rfl⟩
      have HOK := hid hok
      have HM := hid (pending3 HS.out HC.out t mi hmi B' (HB'.out.below HW.out HB'.out.lt))
      clear hX hC hl hSN hmi hok
      cases mi
      · go_wp2_with fail
        refine HM.out.mono ?_
        rintro e w2 ⟨rfl, b2⟩
        have B2 := hid (bstep HW.out (Nat.le_refl _) b2)
        have R2 : Hid (WRow w2 w.heap.size A' cap' xs) := own_tfr (ts := []) HR.out (.of_below b2) (by simp)
        clear b2 HM hc
        go_wp2_with fail
        go_roundw
        case rel => exact ⟨j + 1, A', cap', xs, by omega, by go_num, rfl, by omega, by show _ = _; rw [HSN.out, HMI.out]; simp, R2, B2⟩
        case measure => simp [intOf]; omega
      · go_wp2_with fail
        refine HM.out.mono ?_
        rintro e w2 ⟨rfl, b2⟩
        clear HM
        have B3 := b2.alloc b2.size (.cells (encWr ⟨false, 0, true, z0⟩).toArray 113)
        have K3 := Blk.new w2 113 (encWr ⟨false, 0, true, z0⟩)
        have hbw : wr.heap.size ≤ w2.heap.size := b2.size
        have HRD := hid (pending4 (HS.out.below B3) (HC.out.tfr (ts := []) (.of_below B3) (by simp)) t v ok HVV.out HOK.out B B' ((HB.out.below HW.out HB.out.lt).below B3 (Nat.lt_of_lt_of_le HB.out.lt HW.out.size)) ((HB'.out.below HW.out HB'.out.lt).below B3 (Nat.lt_of_lt_of_le HB'.out.lt HW.out.size)))
        have K3 := hid K3
        have B3 := hid B3
        clear b2
        cases ok
        · go_wp2_with fail
          refine HRD.out.mono ?_
          rintro e w4 ⟨rfl, b4⟩
          have B4 := (bstep B3.out (Nat.le_refl _) b4).alloc (o := .cells #[.int .i64 v.src, .int .i64 v.dst, .string v.ty, .float .f64 v.w] 38) (Nat.le_trans B3.out.size b4.size)
          have K4 := (K3.out.below b4 (by simp)).alloc (.cells #[.int .i64 v.src, .int .i64 v.dst, .string v.ty, .float .f64 v.w] 38)
          have k41 : (w4.alloc (.cells #[.int .i64 v.src, .int .i64 v.dst, .string v.ty, .float .f64 v.w] 38)).cell? ⟨w2.heap.size, 1, none⟩ = some (.int .i64 0) := K4.cell 1
          have kf41 := K4.frozen 1
          have kl4 := K4.lt
          have K7 := hid (K4.set_ 1 (.int .i64 ((j : Int) + 1)))
          have B7 := hid (B4.setCell (p := ⟨w2.heap.size, 1, none⟩) hbw (.int .i64 ((j : Int) + 1)))
          have HSZ := hid B7.out.size
          have HBASE : Hid (∀ o, w.heap.size ≤ (((w4.alloc (.cells #[.int .i64 v.src, .int .i64 v.dst, .string v.ty, .float .f64 v.w] 38)).setCell ⟨w2.heap.size, 1, none⟩ (.int .i64 ((j : Int) + 1))).alloc o).heap.size) := by
            show ∀ o, _ ≤ _
            intro o
            have h1 := HW.out.size
            have h2 := HSZ.out
            simp at h2 ⊢
            omega
          clear B4 b4 K4 HRD K3 B3 hc
          go_wp2_with (first
            | (refine wpList_load_blk rfl 113 _ rfl w2.heap.size 113 [.bool false, .int .i64 ((j : Int) + 1), .bool true, .slice none 0 0, .slice none 0 0, .int .i64 0, .int .i64 0, .string ⟨#[]⟩, .float .f64 0] _ K7.out rfl Tryz.underlying113 rfl size_wr ?_)
            | (at_builtin
               refine wpList_append_all (by rfl) _ _ _ (by rfl) w.heap.size 113 i0 _ 9 112 Tryz.underlying58 hi0 hz0 hz1 hz2 rfl hpos A' cap' xs.length (encWrs xs) (by first | rfl | simp [Act.eval]) (own_tfr (ts := []) HR.out (.of_below (B7.out.alloc HSZ.out _)) (by simp)) (some ⟨(w4.alloc (.cells #[.int .i64 v.src, .int .i64 v.dst, .string v.ty, .float .f64 v.w] 38)).heap.size, 0, none⟩) 1 1 [.bool false, .int .i64 ((j : Int) + 1), .bool true, .slice none 0 0, .slice none 0 0, .int .i64 0, .int .i64 0, .string ⟨#[]⟩, .float .f64 0] (by first | rfl | simp [Act.eval]) (by rfl) (fun e => by cases e) (fun ad had => by cases had; exact news_any _ [.bool false, .int .i64 ((j : Int) + 1), .bool true, .slice none 0 0, .slice none 0 0, .int .i64 0, .int .i64 0, .string ⟨#[]⟩, .float .f64 0] _ _ (by simp)) (encWr_oneL ⟨false, (j : Int) + 1, true, z0⟩) (by unfold maxLen; omega) (by omega) (HBASE.out _) ?_
               intro A9 cap9 w9 hown9 hgrow9 hat9
               have R9 : Hid (WRow w9 w.heap.size A9 cap9 (xs ++ [⟨false, (j : Int) + 1, true, z0⟩])) := by
                 show World.ownsRow _ _ _ _ _ _ _
                 rw [encWrs_append, List.length_append]
                 exact hown9
               have B9 := hid ((HW.out.trans ((B7.out.alloc HSZ.out _).mono HW.out.size)).trans (grown_below (own_tfr (ts := []) HR.out (.of_below (B7.out.alloc HSZ.out _)) (by simp)) (HBASE.out _) hgrow9))
               clear hown9 hgrow9 hat9))
          have HS2 : Hid (wrsOf (fun l => l.any fun y => y.who == t) (fun l => Cel.lastBy (d.c.sees t) l) (d.es.take (j + 1)) = xs ++ [⟨false, (j : Int) + 1, true, z0⟩]) := by
            show _ = _
            rw [HSN.out, HMI.out]
            have := HOK.out
            have h2 : Cel.lastBy (d.c.sees t) l = none := by simpa using this
            simp [h2]
          go_roundw
          case rel => exact ⟨j + 1, A9, cap9, xs ++ [⟨false, (j : Int) + 1, true, z0⟩], by omega, by go_num, by simp, by simp; omega, HS2, R9, B9⟩
          case measure => simp [intOf]; omega
        · go_wp2_with fail
          refine HRD.out.mono ?_
          rintro e w4 ⟨rfl, b4⟩
          go_wp2_with fail
          refine (ofEdge_lit _ v).mono ?_
          rintro e w5 ⟨rfl, b5⟩
          have B4 := (bstep B3.out (Nat.le_refl _) b4).alloc (o := .cells #[.int .i64 v.src, .int .i64 v.dst, .string v.ty, .float .f64 v.w] 38) (Nat.le_trans B3.out.size b4.size)
          have B5 := bstep B4 (Nat.le_refl _) b5
          have K5 := (K3.out.below b4 (by simp)).below ((below_alloc w4 (.cells #[.int .i64 v.src, .int .i64 v.dst, .string v.ty, .float .f64 v.w] 38)).trans (b5.mono (by simp))) (by have := b4.size; simp at this; omega)
          have kl := K5.lt
          have HB5 := hid B5
          have HK5 := hid K5
          clear B4 b4 b5 B5 K5 HRD K3 B3 hc
          go_wp2_with (first
            | (refine wpList_store_blk rfl 113 _ _ rfl w2.heap.size 113 (encWr ⟨false, 0, true, z0⟩) [.bool false, .int .i64 0, .bool false, .slice none 0 0, .slice none 0 0, .int .i64 v.src, .int .i64 v.dst, .string v.ty, .float .f64 v.w] HK5.out rfl rfl rfl size_wr (encWr_all ⟨false, 0, false, v⟩) ?_
               intro w6 k6 f6
               have B6 := hid (HB5.out.trans (f6.below HB5.out.size (fun q hq => by
                 obtain rfl : q = w2.heap.size := by simpa using hq
                 exact hbw)))
               have k61 : w6.cell? ⟨w2.heap.size, 1, none⟩ = some (.int .i64 0) := k6.cell 1
               have kf61 := k6.frozen 1
               have kl6 := k6.lt
               have K7 := hid (k6.set_ 1 (.int .i64 ((j : Int) + 1)))
               have B7 := hid (B6.out.setCell (p := ⟨w2.heap.size, 1, none⟩) hbw (.int .i64 ((j : Int) + 1)))
               have HSZ := hid B7.out.size
               have HBASE : Hid (∀ o, w.heap.size ≤ ((w6.setCell ⟨w2.heap.size, 1, none⟩ (.int .i64 ((j : Int) + 1))).alloc o).heap.size) := by
                 show ∀ o, _ ≤ _
                 intro o
                 have h1 := HW.out.size
                 have h2 := HSZ.out
                 simp at h2 ⊢
                 omega
               clear k6 f6)
            | (refine wpList_load_blk rfl 113 _ rfl w2.heap.size 113 [.bool false, .int .i64 ((j : Int) + 1), .bool false, .slice none 0 0, .slice none 0 0, .int .i64 v.src, .int .i64 v.dst, .string v.ty, .float .f64 v.w] _ K7.out rfl Tryz.underlying113 rfl size_wr ?_)
            | (at_builtin
               refine wpList_append_all (by rfl) _ _ _ (by rfl) w.heap.size 113 i0 _ 9 112 Tryz.underlying58 hi0 hz0 hz1 hz2 rfl hpos A' cap' xs.length (encWrs xs) (by first | rfl | simp [Act.eval]) (own_tfr (ts := []) HR.out (.of_below (B7.out.alloc HSZ.out _)) (by simp)) (some ⟨w6.heap.size, 0, none⟩) 1 1 [.bool false, .int .i64 ((j : Int) + 1), .bool false, .slice none 0 0, .slice none 0 0, .int .i64 v.src, .int .i64 v.dst, .string v.ty, .float .f64 v.w] (by first | rfl | simp [Act.eval]) (by rfl) (fun e => by cases e) (fun ad had => by cases had; exact news_any _ [.bool false, .int .i64 ((j : Int) + 1), .bool false, .slice none 0 0, .slice none 0 0, .int .i64 v.src, .int .i64 v.dst, .string v.ty, .float .f64 v.w] _ _ (by simp)) (encWr_oneL ⟨false, (j : Int) + 1, false, v⟩) (by unfold maxLen; omega) (by omega) (HBASE.out _) ?_
               intro A9 cap9 w9 hown9 hgrow9 hat9
               have R9 : Hid (WRow w9 w.heap.size A9 cap9 (xs ++ [⟨false, (j : Int) + 1, false, v⟩])) := by
                 show World.ownsRow _ _ _ _ _ _ _
                 rw [encWrs_append, List.length_append]
                 exact hown9
               have B9 := hid ((HW.out.trans ((B7.out.alloc HSZ.out _).mono HW.out.size)).trans (grown_below (own_tfr (ts := []) HR.out (.of_below (B7.out.alloc HSZ.out _)) (by simp)) (HBASE.out _) hgrow9))
               clear hown9 hgrow9 hat9))
          have HS2 : Hid (wrsOf (fun l => l.any fun y => y.who == t) (fun l => Cel.lastBy (d.c.sees t) l) (d.es.take (j + 1)) = xs ++ [⟨false, (j : Int) + 1, false, v⟩]) := by
            show _ = _
            rw [HSN.out, HMI.out]
            have := HOK.out
            simp [this, HVV.out]
          go_roundw
          case rel => exact ⟨j + 1, A9, cap9, xs ++ [⟨false, (j : Int) + 1, false, v⟩], by omega, by go_num, by simp, by simp; omega, HS2, R9, B9⟩
          case measure => simp [intOf]; omega
    · obtain rfl : j = d.es.length := by omega
      have hX := HX.out
      rw [List.take_length] at hX
      subst hX
      go_wp2_with fail
      go_ret
      exact ⟨A', cap', rfl, HR.out, HW.out⟩
end
end Go.Proofs.YtdfkdgnhpdgphaaGreatDoor

/-
  A store: edged, Image, Pending.
-/
namespace Go.Proofs.YtdfkdgnhpdgphaaGreatDoor
open Go.RowKit Go.Proofs.Lig

def withEdge (x : Wr) : Wr := { x with edge := true }
set_option maxRecDepth 100000 in
theorem encWrs_get (l : List Wr) (i : Nat) (x : Wr) (h : l[i]? = some x) : (encWrs l)[i * 9]? = some (.bool x.edge) := by
  induction l generalizing i with
  | nil => simp at h
  | cons y l ih =>
    cases i with
    | zero => simp at h; subst h; rfl
    | succ i =>
      have := ih i (by simpa using h)
      rw [← this]
      show (encWr y ++ encWrs l)[_]? = _
      rw [List.getElem?_append_right (by simp [encWr]; omega)]
      congr 1
      simp [encWr]
      omega
set_option maxRecDepth 100000 in
theorem encWrs_set (l : List Wr) (i : Nat) (x : Wr) (h : l[i]? = some x) : (encWrs l).set (i * 9) (.bool true) = encWrs (l.set i (withEdge x)) := by
  induction l generalizing i with
  | nil => simp at h
  | cons y l ih =>
    cases i with
    | zero => simp at h; subst h; rfl
    | succ i =>
      have := ih i (by simpa using h)
      have e : (i + 1) * 9 = (encWr y).length + i * 9 := by simp [encWr]; omega
      show (encWr y ++ encWrs l).set _ _ = encWr y ++ encWrs (l.set i (withEdge x))
      rw [e, List.set_append_right _ _ (by omega), ← this]
      simp
set_option maxRecDepth 100000 in
theorem WRow.src {w : World} {N : Nat} {A : Option Addr} {cap : Nat} {xs : List Wr} (h : WRow w N A cap xs) : (∀ ad, A = some ad → ∀ j u, (encWrs xs)[j]? = some u → w.cell? (ad.add j) = some u) ∧ (A = none → xs.length = 0) := by
  rcases h.2 with ⟨hv, h0⟩ | ⟨g, cap', cur, hv, _, hh, r⟩
  · injection hv with e1 _ e3
    subst e1
    exact ⟨fun ad had => (by cases had), fun _ => h0⟩
  · injection hv with e1 _ e3
    subst e1
    refine ⟨fun ad had => ?_, fun hq => by cases hq⟩
    cases had
    exact h.cells (g := g) rfl
set_option maxHeartbeats 1000000 in
set_option maxRecDepth 100000 in
theorem sto_edged (w : World) (N : Nat) (A : Option Addr) (cap : Nat) (xs : List Wr) (h : WRow w N A cap xs) (hN : N ≤ w.heap.size) (hx : xs.length ≤ 1000) :
    Calls Tryz.prog 43 #[.slice A xs.length cap] w fun e w' => e = .returned (.slice A xs.length cap) ∧ WRow w' N A cap (xs.map withEdge) ∧ Below N w w' := by
  have HH := hid h
  have HNN := hid hN
  clear h hN
  go_enter Tryz.func43, Tryz.ntmps43
  go_wp2_with fail
  go_loopw [6] (fun v wr => ∃ (j : Nat), j ≤ xs.length ∧ v = .int .i64 (j : Int) ∧ Hid (wr.ownsRow N 113 9 (.slice A xs.length cap) xs.length (encWrs ((xs.take j).map withEdge ++ xs.drop j))) ∧ Hid (Below N w wr)) (fun v _ => xs.length - (intOf v).toNat)
  case atStart => exact ⟨0, Nat.zero_le _, rfl, HH, Below.refl _ _⟩
  case round =>
    obtain ⟨j, hj, rfl, HR, HW⟩ := hrel
    by_cases hlt : j < xs.length
    · obtain ⟨x, hx1⟩ : ∃ x, xs[j]? = some x := ⟨_, List.getElem?_eq_getElem hlt⟩
      obtain ⟨g, _, hv, hgN, hgl⟩ := HR.out.form (by omega)
      injection hv with e1 _ _
      subst e1
      have hjx : ((xs.take j).map withEdge ++ xs.drop j)[j]? = some x := by
        rw [List.getElem?_append_right (by simp; omega)]
        simp [hx1, Nat.min_eq_left (Nat.le_of_lt hlt)]
      have c0 : wr.cell? ⟨g, j * 9, none⟩ = some (.bool x.edge) := (HR.out.cellAt (j * 9) (by omega)).trans (encWrs_get _ j x hjx)
      have f0 := HR.out.frozenAt (j * 9)
      have hst := (HR.out.stored (j * 9) (.bool true)).1
      rw [encWrs_set _ j x hjx] at hst
      have e2 : ((xs.take j).map withEdge ++ xs.drop j).set j (withEdge x) = (xs.take (j + 1)).map withEdge ++ xs.drop (j + 1) := by
        rw [List.set_append_right _ _ (by simp; omega)]
        have e3 : (List.map withEdge (List.take j xs)).length = j := by simp; omega
        rw [e3, Nat.sub_self, List.take_add_one, hx1]
        have e4 : xs.drop j = x :: xs.drop (j + 1) := by
          rw [List.drop_eq_getElem_cons hlt]
          congr 1
          have := List.getElem?_eq_getElem hlt
          rw [hx1] at this
          injection this with this
          exact this.symm
        rw [e4]
        simp
      rw [e2] at hst
      have HST := hid hst
      have HB := hid (HW.out.setCell (p := ⟨g, j * 9, none⟩) hgN (.bool true))
      have hjI : (j : Int) < (xs.length : Int) := by omega
      have hj0 : (0 : Int) ≤ (j : Int) := by omega
      clear hst e2 hjx hx1
      go_wp2_with fail
      go_roundw
      case rel => exact ⟨j + 1, by omega, by go_num, HST, HB⟩
      case measure => simp [intOf]; omega
    · obtain rfl : j = xs.length := by omega
      have HR' : Hid (WRow wr N A cap (xs.map withEdge)) := by
        show World.ownsRow _ _ _ _ _ _ _
        have := HR.out
        rw [List.take_length, List.drop_length, List.append_nil] at this
        rw [List.length_map]
        exact this
      go_wp2_with fail
      go_ret
      exact ⟨rfl, HR'.out, HW.out⟩
/-- What an image holds. -/
def imageWrs (d : StoD) : List Wr := wrsOf (fun l => (Cel.lastBy (Nod.doneBy d.c) l).isSome) (fun l => (Cel.lastBy (Nod.doneBy d.c) l).map fun _ => z0) d.ns ++ (wrsOf (fun l => (Cel.lastBy (Edg.doneBy d.c) l).isSome) (fun l => Cel.lastBy (Edg.doneBy d.c) l) d.es).map withEdge
def pendWrs (d : StoD) (t : Int) : List Wr := wrsOf (fun l => l.any fun y => y.who == t) (fun l => (Cel.lastBy (d.c.sees t) l).map fun _ => z0) d.ns ++ (wrsOf (fun l => l.any fun y => y.who == t) (fun l => Cel.lastBy (d.c.sees t) l) d.es).map withEdge
section
variable {O : Nat → Prop} {w w' : World} {s : Nat} {p : StoP} {d : StoD}
set_option maxHeartbeats 4000000 in
set_option maxRecDepth 100000 in
theorem sto_image (h : StoA O w s p d) (hn : d.ns.length ≤ 400) (he : d.es.length ≤ 400) :
    Calls Tryz.prog 13 #[pt s] w fun e w' => ∃ A cap, e = .returned (.tuple #[.int .i64 (d.ns.length : Int), .int .i64 (d.es.length : Int), .slice A (imageWrs d).length cap]) ∧ WRow w' w.heap.size A cap (imageWrs d) ∧ Below w.heap.size w w' := by
  obtain ⟨i0, hi0, hz0, hz1, hz2⟩ := info_parts info_wr
  have hpos : 0 < 9 := by omega
  have B1 := below_alloc w (.cells #[pt s] 56)
  have K1 := Blk.new w 56 [pt s]
  have H1 := hid (h.below B1)
  have HN := hid (image_nodes H1.out (by omega) w.heap.size K1)
  have c1 := H1.out.c1
  have k0 : (w.alloc (.cells #[pt s] 56)).cell? ⟨w.heap.size, 0, none⟩ = some (pt s) := K1.cell 0
  have K1 := hid K1
  have B1 := hid B1
  clear h
  go_enter Tryz.func13, Tryz.ntmps13
  go_wp2_with fail
  refine HN.out.mono ?_
  rintro e w2 ⟨A5, c5, rfl, r2, b2⟩
  obtain ⟨xs, hxs⟩ : ∃ xs, wrsOf (fun l => (Cel.lastBy (Nod.doneBy d.c) l).isSome) (fun l => (Cel.lastBy (Nod.doneBy d.c) l).map fun _ => z0) d.ns = xs := ⟨_, rfl⟩
  have hx3 : xs.length ≤ 400 := by rw [← hxs]; exact Nat.le_trans (wrsOf_len _ _ _) hn
  rw [hxs] at r2 ⊢
  have HXS := hid hxs
  have R2 := hid r2
  have H2 := hid (H1.out.below b2)
  have K2 := hid (K1.out.below b2 K1.out.lt)
  have B2 := hid (bstep B1.out (Nat.le_refl _) b2)
  have HE := hid (image_edges H2.out (by omega) w.heap.size K2.out)
  have c2 := H2.out.c2
  have k2 : w2.cell? ⟨w.heap.size, 0, none⟩ = some (pt s) := K2.out.cell 0
  clear hxs r2 b2 c1 k0 HN H1 K1 B1
  go_wp2_with fail
  refine HE.out.mono ?_
  rintro e w3 ⟨A6, c6, rfl, r3, b3⟩
  obtain ⟨ys, hys⟩ : ∃ ys, wrsOf (fun l => (Cel.lastBy (Edg.doneBy d.c) l).isSome) (fun l => Cel.lastBy (Edg.doneBy d.c) l) d.es = ys := ⟨_, rfl⟩
  have hy3 : ys.length ≤ 1000 := by rw [← hys]; exact Nat.le_trans (wrsOf_len _ _ _) (by omega)
  rw [hys] at r3 ⊢
  have HYS := hid hys
  have R3 := hid (show WRow w3.drew w2.heap.size A6 c6 ys from r3)
  have H3 := hid (H2.out.below b3)
  have K3 := hid (K2.out.below b3 K2.out.lt)
  have B3 := hid (bstep B2.out (Nat.le_refl _) b3)
  clear hys r3 c2 k2 HE
  have HSS : Hid (w3.cell? ⟨w.heap.size, 0, none⟩ = some (pt s) ∧ w3.cell? ⟨s, 1, none⟩ = some (.slice p.nA d.ns.length p.nc) ∧ w3.cell? ⟨s, 2, none⟩ = some (.slice p.eA d.es.length p.ec)) := ⟨K3.out.cell 0, H3.out.c1, H3.out.c2⟩
  have HED := hid (sto_edged w3.drew w2.heap.size A6 c6 ys R3.out (by have := b3.size; simpa using this) hy3)
  have HB3 := hid b3
  have KEEP : Hid (∀ W, Below w2.heap.size w3.drew W → W.cell? ⟨w.heap.size, 0, none⟩ = some (pt s) ∧ W.cell? ⟨s, 1, none⟩ = some (.slice p.nA d.ns.length p.nc) ∧ W.cell? ⟨s, 2, none⟩ = some (.slice p.eA d.es.length p.ec)) := fun W hW => ⟨(hW.cell (p := ⟨w.heap.size, 0, none⟩) K2.out.lt).trans (K3.out.cell 0), (hW.cell (p := ⟨s, 1, none⟩) H2.out.blk.lt).trans H3.out.c1, (hW.cell (p := ⟨s, 2, none⟩) H2.out.blk.lt).trans H3.out.c2⟩
  have HRX : Hid (∀ W, Below w2.heap.size w3.drew W → W.ownsRow w.heap.size 113 9 (.slice A5 xs.length c5) xs.length (encWrs xs)) := fun W hW => by
    have h1 : Below w2.heap.size w2 W := HB3.out.trans ((below_drew w3).mono HB3.out.size |>.trans hW)
    exact (own_tfr (ts := []) R2.out (.of_below h1) (by simp)).mono (by simp <;> omega)
  have HBS : Hid (∀ W, Below w2.heap.size w3.drew W → w.heap.size ≤ W.heap.size) := fun W hW => Nat.le_trans (Nat.le_trans B2.out.size HB3.out.size) hW.size
  have KEEP9 : Hid (∀ W w9, Below w2.heap.size w3.drew W → W.grownBy w9 (Value.slice A5 xs.length c5).ownBlock → w9.cell? ⟨w.heap.size, 0, none⟩ = some (pt s) ∧ w9.cell? ⟨s, 1, none⟩ = some (.slice p.nA d.ns.length p.nc) ∧ w9.cell? ⟨s, 2, none⟩ = some (.slice p.eA d.es.length p.ec)) := fun W w9 hW hg => by
    have hk := K3.out.drew.below hW K2.out.lt
    have hs := H3.out.blk.drew.below hW H2.out.blk.lt
    have hk9 := hk.grown hg (own_ne (HRX.out W hW) hk (by decide))
    have hs9 := hs.grown hg (own_ne (HRX.out W hW) hs (by decide))
    exact ⟨hk9.cell 0, hs9.cell 1, hs9.cell 2⟩
  have HMX : Hid (xs.length + ys.length ≤ maxLen) := by show _ ≤ _; unfold maxLen; omega
  have HMB : Hid ((xs.length + ys.length) * 112 ≤ 140737488355328) := by show _ ≤ _; omega
  have hml : ys.length = (ys.map withEdge).length := by simp
  have HML := hid hml
  clear hml b3
  go_wp2_with fail
  -- REGION image
  refine wp_region_held_drew (S := fun W => W.cell? ⟨w.heap.size, 0, none⟩ = some (pt s) ∧ W.cell? ⟨s, 1, none⟩ = some (.slice p.nA d.ns.length p.nc) ∧ W.cell? ⟨s, 2, none⟩ = some (.slice p.eA d.es.length p.ec)) (by kernel_rfl) (by exact HSS.out) (fun hHeld => ?_)
  refine wpAnyH_take (i := 0) (oi := { dst := some 27, op := Op.load 56 (Operand.tmp 1), type := 56, pos := "store.go:504", after := #[], guard := none }) (v := ?_) rfl (by kernel_rfl) (by kernel_rfl) (by kernel_rfl) (fun _ _ _ h => h) (Or.inl ⟨by rfl, ?_⟩) hHeld ?_
  rotate_left
  · (intro W1 hSw; (try dsimp only at hSw); go_simp; first | done | (with_reducible rfl))
  try simp only [Act.put, List.setIfInBounds_toArray, List.set_cons_zero, List.set_cons_succ]
  refine wpAnyH_take (i := 1) (oi := { dst := some 28, op := Op.nilCheck (Operand.tmp 27), type := 0, pos := "store.go:504", after := #[{ on := 0, ground := Ground.data }], guard := none }) (v := ?_) rfl (by kernel_rfl) (by kernel_rfl) (by kernel_rfl) (fun _ _ _ h => h) (Or.inl ⟨by rfl, ?_⟩) hHeld ?_
  rotate_left
  · (intro W1 hSw; (try dsimp only at hSw); go_simp; first | done | (with_reducible rfl))
  try simp only [Act.put, List.setIfInBounds_toArray, List.set_cons_zero, List.set_cons_succ]
  refine wpAnyH_take (i := 2) (oi := { dst := some 29, op := Op.fieldAddr 99 (Operand.tmp 28) 1, type := 0, pos := "store.go:504", after := #[{ on := 1, ground := Ground.data }], guard := none }) (v := ?_) rfl (by kernel_rfl) (by kernel_rfl) (by kernel_rfl) (fun _ _ _ h => h) (Or.inl ⟨by rfl, ?_⟩) hHeld ?_
  rotate_left
  · (intro W1 hSw; (try dsimp only at hSw); go_simp; first | done | (with_reducible rfl))
  try simp only [Act.put, List.setIfInBounds_toArray, List.set_cons_zero, List.set_cons_succ]
  refine wpAnyH_take (i := 3) (oi := { dst := some 30, op := Op.load 92 (Operand.tmp 29), type := 92, pos := "store.go:504", after := #[{ on := 2, ground := Ground.data }], guard := none }) (v := ?_) rfl (by kernel_rfl) (by kernel_rfl) (by kernel_rfl) (fun _ _ _ h => h) (Or.inl ⟨by rfl, ?_⟩) hHeld ?_
  rotate_left
  · (intro W1 hSw; (try dsimp only at hSw); go_simp; first | done | (with_reducible rfl))
  try simp only [Act.put, List.setIfInBounds_toArray, List.set_cons_zero, List.set_cons_succ]
  refine wpAnyH_take (i := 4) (oi := { dst := some 31, op := Op.call { callee := Callee.builtin Builtin.len, args := #[Operand.tmp 30], argTypes := #[92] }, type := 3, pos := "store.go:504", after := #[{ on := 3, ground := Ground.data }], guard := none }) (v := ?_) rfl (by kernel_rfl) (by kernel_rfl) (by kernel_rfl) (fun _ _ _ h => h) (Or.inl ⟨by rfl, ?_⟩) hHeld ?_
  rotate_left
  · (intro W1 hSw; (try dsimp only at hSw); go_simp; first | done | (with_reducible rfl))
  try simp only [Act.put, List.setIfInBounds_toArray, List.set_cons_zero, List.set_cons_succ]
  refine wpAnyH_take (i := 5) (oi := { dst := some 32, op := Op.load 56 (Operand.tmp 1), type := 56, pos := "store.go:504", after := #[], guard := none }) (v := ?_) rfl (by kernel_rfl) (by kernel_rfl) (by kernel_rfl) (fun _ _ _ h => h) (Or.inl ⟨by rfl, ?_⟩) hHeld ?_
  rotate_left
  · (intro W1 hSw; (try dsimp only at hSw); go_simp; first | done | (with_reducible rfl))
  try simp only [Act.put, List.setIfInBounds_toArray, List.set_cons_zero, List.set_cons_succ]
  refine wpAnyH_take (i := 6) (oi := { dst := some 33, op := Op.nilCheck (Operand.tmp 32), type := 0, pos := "store.go:504", after := #[{ on := 5, ground := Ground.data }], guard := none }) (v := ?_) rfl (by kernel_rfl) (by kernel_rfl) (by kernel_rfl) (fun _ _ _ h => h) (Or.inl ⟨by rfl, ?_⟩) hHeld ?_
  rotate_left
  · (intro W1 hSw; (try dsimp only at hSw); go_simp; first | done | (with_reducible rfl))
  try simp only [Act.put, List.setIfInBounds_toArray, List.set_cons_zero, List.set_cons_succ]
  refine wpAnyH_take (i := 7) (oi := { dst := some 34, op := Op.fieldAddr 99 (Operand.tmp 33) 2, type := 0, pos := "store.go:504", after := #[{ on := 6, ground := Ground.data }], guard := none }) (v := ?_) rfl (by kernel_rfl) (by kernel_rfl) (by kernel_rfl) (fun _ _ _ h => h) (Or.inl ⟨by rfl, ?_⟩) hHeld ?_
  rotate_left
  · (intro W1 hSw; (try dsimp only at hSw); go_simp; first | done | (with_reducible rfl))
  try simp only [Act.put, List.setIfInBounds_toArray, List.set_cons_zero, List.set_cons_succ]
  refine wpAnyH_take (i := 8) (oi := { dst := some 35, op := Op.load 93 (Operand.tmp 34), type := 93, pos := "store.go:504", after := #[{ on := 7, ground := Ground.data }], guard := none }) (v := ?_) rfl (by kernel_rfl) (by kernel_rfl) (by kernel_rfl) (fun _ _ _ h => h) (Or.inl ⟨by rfl, ?_⟩) hHeld ?_
  rotate_left
  · (intro W1 hSw; (try dsimp only at hSw); go_simp; first | done | (with_reducible rfl))
  try simp only [Act.put, List.setIfInBounds_toArray, List.set_cons_zero, List.set_cons_succ]
  refine wpAnyH_take (i := 9) (oi := { dst := some 36, op := Op.call { callee := Callee.builtin Builtin.len, args := #[Operand.tmp 35], argTypes := #[93] }, type := 3, pos := "store.go:504", after := #[{ on := 8, ground := Ground.data }], guard := none }) (v := ?_) rfl (by kernel_rfl) (by kernel_rfl) (by kernel_rfl) (fun _ _ _ h => h) (Or.inl ⟨by rfl, ?_⟩) hHeld ?_
  rotate_left
  · (intro W1 hSw; (try dsimp only at hSw); go_simp; first | done | (with_reducible rfl))
  try simp only [Act.put, List.setIfInBounds_toArray, List.set_cons_zero, List.set_cons_succ]
  refine wpAnyH_take (i := 10) (oi := { dst := some 37, op := Op.move (Operand.tmp 7), type := 58, pos := "store.go:504", after := #[], guard := none }) (v := ?_) rfl (by kernel_rfl) (by kernel_rfl) (by kernel_rfl) (fun _ _ _ h => h) (Or.inl ⟨by rfl, ?_⟩) hHeld ?_
  rotate_left
  · (intro W1 hSw; (try dsimp only at hSw); go_simp; first | done | (with_reducible rfl))
  try simp only [Act.put, List.setIfInBounds_toArray, List.set_cons_zero, List.set_cons_succ]
  refine wpAnyH_take (i := 11) (oi := { dst := some 38, op := Op.move (Operand.tmp 8), type := 58, pos := "store.go:504", after := #[], guard := none }) (v := ?_) rfl (by kernel_rfl) (by kernel_rfl) (by kernel_rfl) (fun _ _ _ h => h) (Or.inl ⟨by rfl, ?_⟩) hHeld ?_
  rotate_left
  · (intro W1 hSw; (try dsimp only at hSw); go_simp; first | done | (with_reducible rfl))
  try simp only [Act.put, List.setIfInBounds_toArray, List.set_cons_zero, List.set_cons_succ]
  refine wpAnyH_ready (rs := [12]) (by kernel_rfl) (by simp) ?_
  refine AllReadyH.cons (o := { dst := some 39, op := Op.call { callee := Callee.value (Operand.func 43), args := #[Operand.tmp 38], argTypes := #[58] }, type := 58, pos := "store.go:504", after := #[{ on := 11, ground := Ground.data }], guard := none }) rfl (fun K hK => ?_) AllReadyH.nil
  rw [if_pos (by rfl)]
  go_simp
  go_at_call 43
  refine HED.out.mono ?_
  rintro e w8 ⟨rfl, r8, b8⟩
  have HR8 := hid r8
  have HB8 := hid b8
  refine hK.out _ _ (KEEP.out _ b8) (fun hHeld => ?_)
  clear hK K
  try simp only [Act.put, List.setIfInBounds_toArray, List.set_cons_zero, List.set_cons_succ]
  refine wpAnyH_ready (rs := [13]) (by kernel_rfl) (by simp) ?_
  refine AllReadyH.cons (o := { dst := some 40, op := Op.call { callee := Callee.builtin Builtin.append, args := #[Operand.tmp 37, Operand.tmp 39], argTypes := #[58, 58] }, type := 58, pos := "store.go:504", after := #[{ on := 10, ground := Ground.data }, { on := 12, ground := Ground.data }, { on := 12, ground := Ground.chain }], guard := none }) rfl (fun K hK => ?_) AllReadyH.nil
  refine step_append_all rfl _ _ _ rfl w.heap.size 113 i0 _ 9 112 Tryz.underlying58 hi0 hz0 hz1 hz2 rfl hpos A5 c5 xs.length (encWrs xs) rfl (HRX.out _ HB8.out) A6 ys.length c6 (encWrs (ys.map withEdge)) rfl (by rw [encWrs_len, List.length_map]) (fun e => HML.out.trans ((WRow.src HR8.out).2 e)) (fun ad had => (WRow.src HR8.out).1 ad had) (encWrs_one _) HMX.out HMB.out (HBS.out _ HB8.out) ?_
  intro A9 c9 w9 hown9 hgrow9 hat9
  have B9 := hid (grown_below (HRX.out _ HB8.out) (HBS.out _ HB8.out) hgrow9)
  have R9 := hid hown9
  refine hK.out _ _ (KEEP9.out _ _ HB8.out hgrow9) (fun hHeld => ?_)
  clear hK K
  try simp only [Act.put, List.setIfInBounds_toArray, List.set_cons_zero, List.set_cons_succ]
  refine wpAnyH_take (i := 14) (oi := { dst := some 2, op := Op.assign (Operand.tmp 31), type := 3, pos := "store.go:504", after := #[{ on := 4, ground := Ground.data }, { on := 13, ground := Ground.chain }, { on := 0, ground := Ground.phase }, { on := 1, ground := Ground.phase }, { on := 2, ground := Ground.phase }, { on := 3, ground := Ground.phase }, { on := 4, ground := Ground.phase }, { on := 5, ground := Ground.textOnly Departure.lateStores }, { on := 6, ground := Ground.textOnly Departure.lateStores }, { on := 7, ground := Ground.textOnly Departure.lateStores }, { on := 8, ground := Ground.textOnly Departure.lateStores }, { on := 9, ground := Ground.textOnly Departure.lateStoresUnsure }, { on := 10, ground := Ground.textOnly Departure.lateStores }, { on := 11, ground := Ground.textOnly Departure.lateStores }, { on := 12, ground := Ground.textOnly Departure.lateStoresUnsure }, { on := 13, ground := Ground.textOnly Departure.lateStoresUnsure }], guard := none }) (v := ?_) rfl (by kernel_rfl) (by kernel_rfl) (by kernel_rfl) (fun _ _ _ h => h) (Or.inl ⟨by rfl, ?_⟩) hHeld ?_
  rotate_left
  · (intro W1 hSw; (try dsimp only at hSw); go_simp; first | done | (with_reducible rfl))
  try simp only [Act.put, List.setIfInBounds_toArray, List.set_cons_zero, List.set_cons_succ]
  refine wpAnyH_take (i := 15) (oi := { dst := some 3, op := Op.assign (Operand.tmp 36), type := 3, pos := "store.go:504", after := #[{ on := 9, ground := Ground.data }, { on := 14, ground := Ground.chain }, { on := 0, ground := Ground.phase }, { on := 1, ground := Ground.phase }, { on := 2, ground := Ground.phase }, { on := 3, ground := Ground.phase }, { on := 4, ground := Ground.phase }, { on := 5, ground := Ground.phase }, { on := 6, ground := Ground.phase }, { on := 7, ground := Ground.phase }, { on := 8, ground := Ground.phase }, { on := 9, ground := Ground.phase }, { on := 10, ground := Ground.textOnly Departure.lateStores }, { on := 11, ground := Ground.textOnly Departure.lateStores }, { on := 12, ground := Ground.textOnly Departure.lateStoresUnsure }, { on := 13, ground := Ground.textOnly Departure.lateStoresUnsure }, { on := 14, ground := Ground.phase }], guard := none }) (v := ?_) rfl (by kernel_rfl) (by kernel_rfl) (by kernel_rfl) (fun _ _ _ h => h) (Or.inl ⟨by rfl, ?_⟩) hHeld ?_
  rotate_left
  · (intro W1 hSw; (try dsimp only at hSw); go_simp; first | done | (with_reducible rfl))
  try simp only [Act.put, List.setIfInBounds_toArray, List.set_cons_zero, List.set_cons_succ]
  refine wpAnyH_take (i := 16) (oi := { dst := some 4, op := Op.assign (Operand.tmp 40), type := 58, pos := "store.go:504", after := #[{ on := 13, ground := Ground.data }, { on := 15, ground := Ground.chain }, { on := 0, ground := Ground.phase }, { on := 1, ground := Ground.phase }, { on := 2, ground := Ground.phase }, { on := 3, ground := Ground.phase }, { on := 4, ground := Ground.phase }, { on := 5, ground := Ground.phase }, { on := 6, ground := Ground.phase }, { on := 7, ground := Ground.phase }, { on := 8, ground := Ground.phase }, { on := 9, ground := Ground.phase }, { on := 10, ground := Ground.phase }, { on := 11, ground := Ground.phase }, { on := 12, ground := Ground.phase }, { on := 13, ground := Ground.phase }, { on := 14, ground := Ground.phase }, { on := 15, ground := Ground.phase }], guard := none }) (v := ?_) rfl (by kernel_rfl) (by kernel_rfl) (by kernel_rfl) (fun _ _ _ h => h) (Or.inl ⟨by rfl, ?_⟩) hHeld ?_
  rotate_left
  · (intro W1 hSw; (try dsimp only at hSw); go_simp; first | done | (with_reducible rfl))
  try simp only [Act.put, List.setIfInBounds_toArray, List.set_cons_zero, List.set_cons_succ]
  refine wpAnyH_done (by kernel_rfl) ?_ _
  clear hHeld HED HSS KEEP HRX HBS KEEP9
  go_wp2_with fail
  have hI : imageWrs d = xs ++ ys.map withEdge := by unfold imageWrs; rw [HXS.out, HYS.out]
  have hl : (imageWrs d).length = xs.length + ys.length := by rw [hI]; simp
  have hB : Below w.heap.size w w9 := ((B3.out.trans ((below_drew w3).mono B3.out.size)).trans (HB8.out.mono B2.out.size)).trans B9.out
  refine bodyPost_ret (v := .tuple #[.int .i64 (d.ns.length : Int), .int .i64 (d.es.length : Int), .slice A9 (imageWrs d).length c9]) (by rw [hl]; simp [results, Tryz.results13, go_sem]) rfl ⟨A9, c9, rfl, ?_, hB⟩
  show World.ownsRow _ _ _ _ _ _ _
  rw [hI, encWrs_append, List.length_append, List.length_map]
  exact R9.out
  -- END REGION image
set_option maxHeartbeats 4000000 in
set_option maxRecDepth 100000 in
theorem sto_pending (h : StoA O w s p d) (t : Int) (hlv : d.c.live t = true) (hn : d.ns.length ≤ 400) (he : d.es.length ≤ 400) :
    Calls Tryz.prog 122 #[pt s, .int .i64 t] w fun e w' => ∃ A cap, e = .returned (.tuple #[.int .i64 (d.ns.length : Int), .int .i64 (d.es.length : Int), .slice A (pendWrs d t).length cap, .int .i64 0]) ∧ WRow w' w.heap.size A cap (pendWrs d t) ∧ Below w.heap.size w w' := by
  obtain ⟨i0, hi0, hz0, hz1, hz2⟩ := info_parts info_wr
  have hpos : 0 < 9 := by omega
  have B1 := (below_alloc w (.cells #[pt s] 56)).alloc (by simp) (.cells #[.int .i64 t] 3)
  have K1 := (Blk.new w 56 [pt s]).alloc (.cells #[.int .i64 t] 3)
  have T1 := Blk.new (w.alloc (.cells #[pt s] 56)) 3 [.int .i64 t]
  rw [World.size_alloc] at T1
  have H1 := hid (h.below B1)
  have HL := hid (sto_isLive H1.out t true hlv)
  have HN := hid (pending_nodes H1.out (by omega) t w.heap.size (w.heap.size + 1) K1 T1)
  have c1 := H1.out.c1
  have k0 : ((w.alloc (.cells #[pt s] 56)).alloc (.cells #[.int .i64 t] 3)).cell? ⟨w.heap.size, 0, none⟩ = some (pt s) := K1.cell 0
  have T1 := hid T1
  have K1 := hid K1
  have B1 := hid B1
  clear h hlv
  go_enter Tryz.func122, Tryz.ntmps122
  go_wp2_with fail
  refine HL.out.mono ?_
  rintro e wl ⟨rfl, rfl⟩
  go_wp2_with fail
  refine HN.out.mono ?_
  rintro e w2 ⟨A5, c5, rfl, r2, b2⟩
  obtain ⟨xs, hxs⟩ : ∃ xs, wrsOf (fun l => l.any fun y => y.who == t) (fun l => (Cel.lastBy (d.c.sees t) l).map fun _ => z0) d.ns = xs := ⟨_, rfl⟩
  have hx3 : xs.length ≤ 400 := by rw [← hxs]; exact Nat.le_trans (wrsOf_len _ _ _) hn
  rw [hxs] at r2 ⊢
  have HXS := hid hxs
  have R2 := hid r2
  have H2 := hid (H1.out.below b2)
  have K2 := hid (K1.out.below b2 K1.out.lt)
  have B2 := hid (bstep B1.out (Nat.le_refl _) b2)
  have T2 := hid (T1.out.below b2 T1.out.lt)
  have HE := hid (pending_edges H2.out (by omega) t w.heap.size (w.heap.size + 1) K2.out T2.out)
  have c2 := H2.out.c2
  have k2 : w2.cell? ⟨w.heap.size, 0, none⟩ = some (pt s) := K2.out.cell 0
  clear hxs r2 b2 c1 k0 HN H1 K1 B1 T1 HL
  go_wp2_with fail
  refine HE.out.mono ?_
  rintro e w3 ⟨A6, c6, rfl, r3, b3⟩
  obtain ⟨ys, hys⟩ : ∃ ys, wrsOf (fun l => l.any fun y => y.who == t) (fun l => Cel.lastBy (d.c.sees t) l) d.es = ys := ⟨_, rfl⟩
  have hy3 : ys.length ≤ 1000 := by rw [← hys]; exact Nat.le_trans (wrsOf_len _ _ _) (by omega)
  rw [hys] at r3 ⊢
  have HYS := hid hys
  have R3 := hid (show WRow w3.drew w2.heap.size A6 c6 ys from r3)
  have H3 := hid (H2.out.below b3)
  have K3 := hid (K2.out.below b3 K2.out.lt)
  have B3 := hid (bstep B2.out (Nat.le_refl _) b3)
  clear hys r3 c2 k2 HE
  have HSS : Hid (w3.cell? ⟨w.heap.size, 0, none⟩ = some (pt s) ∧ w3.cell? ⟨s, 1, none⟩ = some (.slice p.nA d.ns.length p.nc) ∧ w3.cell? ⟨s, 2, none⟩ = some (.slice p.eA d.es.length p.ec)) := ⟨K3.out.cell 0, H3.out.c1, H3.out.c2⟩
  have HED := hid (sto_edged w3.drew w2.heap.size A6 c6 ys R3.out (by have := b3.size; simpa using this) hy3)
  have HB3 := hid b3
  have KEEP : Hid (∀ W, Below w2.heap.size w3.drew W → W.cell? ⟨w.heap.size, 0, none⟩ = some (pt s) ∧ W.cell? ⟨s, 1, none⟩ = some (.slice p.nA d.ns.length p.nc) ∧ W.cell? ⟨s, 2, none⟩ = some (.slice p.eA d.es.length p.ec)) := fun W hW => ⟨(hW.cell (p := ⟨w.heap.size, 0, none⟩) K2.out.lt).trans (K3.out.cell 0), (hW.cell (p := ⟨s, 1, none⟩) H2.out.blk.lt).trans H3.out.c1, (hW.cell (p := ⟨s, 2, none⟩) H2.out.blk.lt).trans H3.out.c2⟩
  have HRX : Hid (∀ W, Below w2.heap.size w3.drew W → W.ownsRow w.heap.size 113 9 (.slice A5 xs.length c5) xs.length (encWrs xs)) := fun W hW => by
    have h1 : Below w2.heap.size w2 W := HB3.out.trans ((below_drew w3).mono HB3.out.size |>.trans hW)
    exact (own_tfr (ts := []) R2.out (.of_below h1) (by simp)).mono (by simp <;> omega)
  have HBS : Hid (∀ W, Below w2.heap.size w3.drew W → w.heap.size ≤ W.heap.size) := fun W hW => Nat.le_trans (Nat.le_trans B2.out.size HB3.out.size) hW.size
  have KEEP9 : Hid (∀ W w9, Below w2.heap.size w3.drew W → W.grownBy w9 (Value.slice A5 xs.length c5).ownBlock → w9.cell? ⟨w.heap.size, 0, none⟩ = some (pt s) ∧ w9.cell? ⟨s, 1, none⟩ = some (.slice p.nA d.ns.length p.nc) ∧ w9.cell? ⟨s, 2, none⟩ = some (.slice p.eA d.es.length p.ec)) := fun W w9 hW hg => by
    have hk := K3.out.drew.below hW K2.out.lt
    have hs := H3.out.blk.drew.below hW H2.out.blk.lt
    have hk9 := hk.grown hg (own_ne (HRX.out W hW) hk (by decide))
    have hs9 := hs.grown hg (own_ne (HRX.out W hW) hs (by decide))
    exact ⟨hk9.cell 0, hs9.cell 1, hs9.cell 2⟩
  have HMX : Hid (xs.length + ys.length ≤ maxLen) := by show _ ≤ _; unfold maxLen; omega
  have HMB : Hid ((xs.length + ys.length) * 112 ≤ 140737488355328) := by show _ ≤ _; omega
  have hml : ys.length = (ys.map withEdge).length := by simp
  have HML := hid hml
  clear hml b3
  go_wp2_with fail
  -- REGION pending
  refine wp_region_held_drew (S := fun W => W.cell? ⟨w.heap.size, 0, none⟩ = some (pt s) ∧ W.cell? ⟨s, 1, none⟩ = some (.slice p.nA d.ns.length p.nc) ∧ W.cell? ⟨s, 2, none⟩ = some (.slice p.eA d.es.length p.ec)) (by kernel_rfl) (by exact HSS.out) (fun hHeld => ?_)
  refine wpAnyH_take (i := 0) (oi := { dst := some 28, op := Op.load 56 (Operand.tmp 2), type := 56, pos := "store.go:429", after := #[], guard := none }) (v := ?_) rfl (by kernel_rfl) (by kernel_rfl) (by kernel_rfl) (fun _ _ _ h => h) (Or.inl ⟨by rfl, ?_⟩) hHeld ?_
  rotate_left
  · (intro W1 hSw; (try dsimp only at hSw); go_simp; first | done | (with_reducible rfl))
  try simp only [Act.put, List.setIfInBounds_toArray, List.set_cons_zero, List.set_cons_succ]
  refine wpAnyH_take (i := 1) (oi := { dst := some 29, op := Op.nilCheck (Operand.tmp 28), type := 0, pos := "store.go:429", after := #[{ on := 0, ground := Ground.data }], guard := none }) (v := ?_) rfl (by kernel_rfl) (by kernel_rfl) (by kernel_rfl) (fun _ _ _ h => h) (Or.inl ⟨by rfl, ?_⟩) hHeld ?_
  rotate_left
  · (intro W1 hSw; (try dsimp only at hSw); go_simp; first | done | (with_reducible rfl))
  try simp only [Act.put, List.setIfInBounds_toArray, List.set_cons_zero, List.set_cons_succ]
  refine wpAnyH_take (i := 2) (oi := { dst := some 30, op := Op.fieldAddr 99 (Operand.tmp 29) 1, type := 0, pos := "store.go:429", after := #[{ on := 1, ground := Ground.data }], guard := none }) (v := ?_) rfl (by kernel_rfl) (by kernel_rfl) (by kernel_rfl) (fun _ _ _ h => h) (Or.inl ⟨by rfl, ?_⟩) hHeld ?_
  rotate_left
  · (intro W1 hSw; (try dsimp only at hSw); go_simp; first | done | (with_reducible rfl))
  try simp only [Act.put, List.setIfInBounds_toArray, List.set_cons_zero, List.set_cons_succ]
  refine wpAnyH_take (i := 3) (oi := { dst := some 31, op := Op.load 92 (Operand.tmp 30), type := 92, pos := "store.go:429", after := #[{ on := 2, ground := Ground.data }], guard := none }) (v := ?_) rfl (by kernel_rfl) (by kernel_rfl) (by kernel_rfl) (fun _ _ _ h => h) (Or.inl ⟨by rfl, ?_⟩) hHeld ?_
  rotate_left
  · (intro W1 hSw; (try dsimp only at hSw); go_simp; first | done | (with_reducible rfl))
  try simp only [Act.put, List.setIfInBounds_toArray, List.set_cons_zero, List.set_cons_succ]
  refine wpAnyH_take (i := 4) (oi := { dst := some 32, op := Op.call { callee := Callee.builtin Builtin.len, args := #[Operand.tmp 31], argTypes := #[92] }, type := 3, pos := "store.go:429", after := #[{ on := 3, ground := Ground.data }], guard := none }) (v := ?_) rfl (by kernel_rfl) (by kernel_rfl) (by kernel_rfl) (fun _ _ _ h => h) (Or.inl ⟨by rfl, ?_⟩) hHeld ?_
  rotate_left
  · (intro W1 hSw; (try dsimp only at hSw); go_simp; first | done | (with_reducible rfl))
  try simp only [Act.put, List.setIfInBounds_toArray, List.set_cons_zero, List.set_cons_succ]
  refine wpAnyH_take (i := 5) (oi := { dst := some 33, op := Op.load 56 (Operand.tmp 2), type := 56, pos := "store.go:429", after := #[], guard := none }) (v := ?_) rfl (by kernel_rfl) (by kernel_rfl) (by kernel_rfl) (fun _ _ _ h => h) (Or.inl ⟨by rfl, ?_⟩) hHeld ?_
  rotate_left
  · (intro W1 hSw; (try dsimp only at hSw); go_simp; first | done | (with_reducible rfl))
  try simp only [Act.put, List.setIfInBounds_toArray, List.set_cons_zero, List.set_cons_succ]
  refine wpAnyH_take (i := 6) (oi := { dst := some 34, op := Op.nilCheck (Operand.tmp 33), type := 0, pos := "store.go:429", after := #[{ on := 5, ground := Ground.data }], guard := none }) (v := ?_) rfl (by kernel_rfl) (by kernel_rfl) (by kernel_rfl) (fun _ _ _ h => h) (Or.inl ⟨by rfl, ?_⟩) hHeld ?_
  rotate_left
  · (intro W1 hSw; (try dsimp only at hSw); go_simp; first | done | (with_reducible rfl))
  try simp only [Act.put, List.setIfInBounds_toArray, List.set_cons_zero, List.set_cons_succ]
  refine wpAnyH_take (i := 7) (oi := { dst := some 35, op := Op.fieldAddr 99 (Operand.tmp 34) 2, type := 0, pos := "store.go:429", after := #[{ on := 6, ground := Ground.data }], guard := none }) (v := ?_) rfl (by kernel_rfl) (by kernel_rfl) (by kernel_rfl) (fun _ _ _ h => h) (Or.inl ⟨by rfl, ?_⟩) hHeld ?_
  rotate_left
  · (intro W1 hSw; (try dsimp only at hSw); go_simp; first | done | (with_reducible rfl))
  try simp only [Act.put, List.setIfInBounds_toArray, List.set_cons_zero, List.set_cons_succ]
  refine wpAnyH_take (i := 8) (oi := { dst := some 36, op := Op.load 93 (Operand.tmp 35), type := 93, pos := "store.go:429", after := #[{ on := 7, ground := Ground.data }], guard := none }) (v := ?_) rfl (by kernel_rfl) (by kernel_rfl) (by kernel_rfl) (fun _ _ _ h => h) (Or.inl ⟨by rfl, ?_⟩) hHeld ?_
  rotate_left
  · (intro W1 hSw; (try dsimp only at hSw); go_simp; first | done | (with_reducible rfl))
  try simp only [Act.put, List.setIfInBounds_toArray, List.set_cons_zero, List.set_cons_succ]
  refine wpAnyH_take (i := 9) (oi := { dst := some 37, op := Op.call { callee := Callee.builtin Builtin.len, args := #[Operand.tmp 36], argTypes := #[93] }, type := 3, pos := "store.go:429", after := #[{ on := 8, ground := Ground.data }], guard := none }) (v := ?_) rfl (by kernel_rfl) (by kernel_rfl) (by kernel_rfl) (fun _ _ _ h => h) (Or.inl ⟨by rfl, ?_⟩) hHeld ?_
  rotate_left
  · (intro W1 hSw; (try dsimp only at hSw); go_simp; first | done | (with_reducible rfl))
  try simp only [Act.put, List.setIfInBounds_toArray, List.set_cons_zero, List.set_cons_succ]
  refine wpAnyH_take (i := 10) (oi := { dst := some 38, op := Op.move (Operand.tmp 8), type := 58, pos := "store.go:429", after := #[], guard := none }) (v := ?_) rfl (by kernel_rfl) (by kernel_rfl) (by kernel_rfl) (fun _ _ _ h => h) (Or.inl ⟨by rfl, ?_⟩) hHeld ?_
  rotate_left
  · (intro W1 hSw; (try dsimp only at hSw); go_simp; first | done | (with_reducible rfl))
  try simp only [Act.put, List.setIfInBounds_toArray, List.set_cons_zero, List.set_cons_succ]
  refine wpAnyH_take (i := 11) (oi := { dst := some 39, op := Op.move (Operand.tmp 9), type := 58, pos := "store.go:429", after := #[], guard := none }) (v := ?_) rfl (by kernel_rfl) (by kernel_rfl) (by kernel_rfl) (fun _ _ _ h => h) (Or.inl ⟨by rfl, ?_⟩) hHeld ?_
  rotate_left
  · (intro W1 hSw; (try dsimp only at hSw); go_simp; first | done | (with_reducible rfl))
  try simp only [Act.put, List.setIfInBounds_toArray, List.set_cons_zero, List.set_cons_succ]
  refine wpAnyH_ready (rs := [12]) (by kernel_rfl) (by simp) ?_
  refine AllReadyH.cons (o := { dst := some 40, op := Op.call { callee := Callee.value (Operand.func 43), args := #[Operand.tmp 39], argTypes := #[58] }, type := 58, pos := "store.go:429", after := #[{ on := 11, ground := Ground.data }], guard := none }) rfl (fun K hK => ?_) AllReadyH.nil
  rw [if_pos (by rfl)]
  go_simp
  go_at_call 43
  refine HED.out.mono ?_
  rintro e w8 ⟨rfl, r8, b8⟩
  have HR8 := hid r8
  have HB8 := hid b8
  refine hK.out _ _ (KEEP.out _ b8) (fun hHeld => ?_)
  clear hK K
  try simp only [Act.put, List.setIfInBounds_toArray, List.set_cons_zero, List.set_cons_succ]
  refine wpAnyH_ready (rs := [13]) (by kernel_rfl) (by simp) ?_
  refine AllReadyH.cons (o := { dst := some 41, op := Op.call { callee := Callee.builtin Builtin.append, args := #[Operand.tmp 38, Operand.tmp 40], argTypes := #[58, 58] }, type := 58, pos := "store.go:429", after := #[{ on := 10, ground := Ground.data }, { on := 12, ground := Ground.data }, { on := 12, ground := Ground.chain }], guard := none }) rfl (fun K hK => ?_) AllReadyH.nil
  refine step_append_all rfl _ _ _ rfl w.heap.size 113 i0 _ 9 112 Tryz.underlying58 hi0 hz0 hz1 hz2 rfl hpos A5 c5 xs.length (encWrs xs) rfl (HRX.out _ HB8.out) A6 ys.length c6 (encWrs (ys.map withEdge)) rfl (by rw [encWrs_len, List.length_map]) (fun e => HML.out.trans ((WRow.src HR8.out).2 e)) (fun ad had => (WRow.src HR8.out).1 ad had) (encWrs_one _) HMX.out HMB.out (HBS.out _ HB8.out) ?_
  intro A9 c9 w9 hown9 hgrow9 hat9
  have B9 := hid (grown_below (HRX.out _ HB8.out) (HBS.out _ HB8.out) hgrow9)
  have R9 := hid hown9
  refine hK.out _ _ (KEEP9.out _ _ HB8.out hgrow9) (fun hHeld => ?_)
  clear hK K
  try simp only [Act.put, List.setIfInBounds_toArray, List.set_cons_zero, List.set_cons_succ]
  refine wpAnyH_take (i := 14) (oi := { dst := some 4, op := Op.assign (Operand.tmp 32), type := 3, pos := "store.go:429", after := #[{ on := 4, ground := Ground.data }, { on := 13, ground := Ground.chain }, { on := 0, ground := Ground.phase }, { on := 1, ground := Ground.phase }, { on := 2, ground := Ground.phase }, { on := 3, ground := Ground.phase }, { on := 4, ground := Ground.phase }, { on := 5, ground := Ground.textOnly Departure.lateStores }, { on := 6, ground := Ground.textOnly Departure.lateStores }, { on := 7, ground := Ground.textOnly Departure.lateStores }, { on := 8, ground := Ground.textOnly Departure.lateStores }, { on := 9, ground := Ground.textOnly Departure.lateStoresUnsure }, { on := 10, ground := Ground.textOnly Departure.lateStores }, { on := 11, ground := Ground.textOnly Departure.lateStores }, { on := 12, ground := Ground.textOnly Departure.lateStoresUnsure }, { on := 13, ground := Ground.textOnly Departure.lateStoresUnsure }], guard := none }) (v := ?_) rfl (by kernel_rfl) (by kernel_rfl) (by kernel_rfl) (fun _ _ _ h => h) (Or.inl ⟨by rfl, ?_⟩) hHeld ?_
  rotate_left
  · (intro W1 hSw; (try dsimp only at hSw); go_simp; first | done | (with_reducible rfl))
  try simp only [Act.put, List.setIfInBounds_toArray, List.set_cons_zero, List.set_cons_succ]
  refine wpAnyH_take (i := 15) (oi := { dst := some 5, op := Op.assign (Operand.tmp 37), type := 3, pos := "store.go:429", after := #[{ on := 9, ground := Ground.data }, { on := 14, ground := Ground.chain }, { on := 0, ground := Ground.phase }, { on := 1, ground := Ground.phase }, { on := 2, ground := Ground.phase }, { on := 3, ground := Ground.phase }, { on := 4, ground := Ground.phase }, { on := 5, ground := Ground.phase }, { on := 6, ground := Ground.phase }, { on := 7, ground := Ground.phase }, { on := 8, ground := Ground.phase }, { on := 9, ground := Ground.phase }, { on := 10, ground := Ground.textOnly Departure.lateStores }, { on := 11, ground := Ground.textOnly Departure.lateStores }, { on := 12, ground := Ground.textOnly Departure.lateStoresUnsure }, { on := 13, ground := Ground.textOnly Departure.lateStoresUnsure }, { on := 14, ground := Ground.phase }], guard := none }) (v := ?_) rfl (by kernel_rfl) (by kernel_rfl) (by kernel_rfl) (fun _ _ _ h => h) (Or.inl ⟨by rfl, ?_⟩) hHeld ?_
  rotate_left
  · (intro W1 hSw; (try dsimp only at hSw); go_simp; first | done | (with_reducible rfl))
  try simp only [Act.put, List.setIfInBounds_toArray, List.set_cons_zero, List.set_cons_succ]
  refine wpAnyH_take (i := 16) (oi := { dst := some 6, op := Op.assign (Operand.tmp 41), type := 58, pos := "store.go:429", after := #[{ on := 13, ground := Ground.data }, { on := 15, ground := Ground.chain }, { on := 0, ground := Ground.phase }, { on := 1, ground := Ground.phase }, { on := 2, ground := Ground.phase }, { on := 3, ground := Ground.phase }, { on := 4, ground := Ground.phase }, { on := 5, ground := Ground.phase }, { on := 6, ground := Ground.phase }, { on := 7, ground := Ground.phase }, { on := 8, ground := Ground.phase }, { on := 9, ground := Ground.phase }, { on := 10, ground := Ground.phase }, { on := 11, ground := Ground.phase }, { on := 12, ground := Ground.phase }, { on := 13, ground := Ground.phase }, { on := 14, ground := Ground.phase }, { on := 15, ground := Ground.phase }], guard := none }) (v := ?_) rfl (by kernel_rfl) (by kernel_rfl) (by kernel_rfl) (fun _ _ _ h => h) (Or.inl ⟨by rfl, ?_⟩) hHeld ?_
  rotate_left
  · (intro W1 hSw; (try dsimp only at hSw); go_simp; first | done | (with_reducible rfl))
  try simp only [Act.put, List.setIfInBounds_toArray, List.set_cons_zero, List.set_cons_succ]
  refine wpAnyH_take (i := 17) (oi := { dst := some 7, op := Op.assign (Operand.const (Value.int IntKind.i64 0)), type := 30, pos := "store.go:429", after := #[{ on := 16, ground := Ground.chain }, { on := 0, ground := Ground.phase }, { on := 1, ground := Ground.phase }, { on := 2, ground := Ground.phase }, { on := 3, ground := Ground.phase }, { on := 4, ground := Ground.phase }, { on := 5, ground := Ground.phase }, { on := 6, ground := Ground.phase }, { on := 7, ground := Ground.phase }, { on := 8, ground := Ground.phase }, { on := 9, ground := Ground.phase }, { on := 10, ground := Ground.phase }, { on := 11, ground := Ground.phase }, { on := 12, ground := Ground.phase }, { on := 13, ground := Ground.phase }, { on := 14, ground := Ground.phase }, { on := 15, ground := Ground.phase }, { on := 16, ground := Ground.phase }], guard := none }) (v := ?_) rfl (by kernel_rfl) (by kernel_rfl) (by kernel_rfl) (fun _ _ _ h => h) (Or.inl ⟨by rfl, ?_⟩) hHeld ?_
  rotate_left
  · (intro W1 hSw; (try dsimp only at hSw); go_simp; first | done | (with_reducible rfl))
  try simp only [Act.put, List.setIfInBounds_toArray, List.set_cons_zero, List.set_cons_succ]
  refine wpAnyH_done (by kernel_rfl) ?_ _
  clear hHeld HED HSS KEEP HRX HBS KEEP9
  go_wp2_with fail
  have hI : pendWrs d t = xs ++ ys.map withEdge := by unfold pendWrs; rw [HXS.out, HYS.out]
  have hl : (pendWrs d t).length = xs.length + ys.length := by rw [hI]; simp
  have hB : Below w.heap.size w w9 := ((B3.out.trans ((below_drew w3).mono B3.out.size)).trans (HB8.out.mono B2.out.size)).trans B9.out
  refine bodyPost_ret (v := .tuple #[.int .i64 (d.ns.length : Int), .int .i64 (d.es.length : Int), .slice A9 (pendWrs d t).length c9, .int .i64 0]) (by rw [hl]; simp [results, Tryz.results122, go_sem]) rfl ⟨A9, c9, rfl, ?_, hB⟩
  show World.ownsRow _ _ _ _ _ _ _
  rw [hI, encWrs_append, List.length_append, List.length_map]
  exact R9.out
  -- END REGION pending
end
end Go.Proofs.YtdfkdgnhpdgphaaGreatDoor
