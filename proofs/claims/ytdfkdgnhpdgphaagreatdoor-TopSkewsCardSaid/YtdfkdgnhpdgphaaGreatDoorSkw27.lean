/-
  A store: may.
-/
import Derived.Test.YtdfkdgnhpdgphaaGreatDoorSkw26
import Derived.Test.YtdfkdgnhpdgphaaGreatDoorSkw3
namespace Go.Proofs.YtdfkdgnhpdgphaaGreatDoor
open Go.RowKit Go.Proofs.Lig

section
variable {O : Nat → Prop} {w w' : World} {s : Nat} {p : StoP} {d : StoD}
set_option maxRecDepth 100000 in
theorem nod_check (h : StoA O w s p d) {X : Nat} {S : List Nat} {l : List (Ver NodV)} (hX : Nod.CelS w X S l) (t : Int) :
    Calls Tryz.prog 236 #[pt X, pt p.C, .int .i64 t] w fun e w' => e = .returned (.int .i64 (if Cel.blocked d.c l t then 6 else 0)) ∧ Below w.heap.size w w' := by
  obtain ⟨SC, hc, _⟩ := h.clk
  obtain ⟨A, cap, hX, _⟩ := hX
  rcases List.eq_nil_or_concat l with rfl | ⟨l0, y, hcc⟩
  · exact Nod.cel_check_empty w X A cap (some ⟨p.C, 0, none⟩) t hX
  · rw [List.concat_eq_append] at hcc
    subst hcc
    have hl : (l0 ++ [y]).getLast? = some y := by simp
    have e : Cel.blocked d.c (l0 ++ [y]) t = d.c.clashes t y.who := by unfold Cel.blocked; rw [hl]
    rw [e]
    exact Nod.cel_check_some w X A cap (l0 ++ [y]) p.C SC d.c t y hX hc h.good hl _ rfl
/-- Is one of these nodes barred to t? -/
def barred (d : StoD) (t : Int) (is : List Nat) : Bool := is.any fun i => Cel.blocked d.c ((d.ns[i]?).getD []) t
/-- What an abort of t leaves as it is. -/
structure Untouched (d : StoD) (t : Int) : Prop where
  live : d.c.live t = true
  nodes : ∀ l ∈ d.ns, ∀ y ∈ l, (y.who == t) = false
  edges : ∀ l ∈ d.es, ∀ y ∈ l, (y.who == t) = false
  linked : ∀ i, i < d.es.length → Linked d i

set_option maxHeartbeats 4000000 in
set_option maxRecDepth 100000 in
theorem sto_may (h : StoA O w s p d) (hO : NewO O w) (t : Int) (L : Nat) (is : List Nat) (hL : IntsIn w L (is.map fun (i : Nat) => (i : Int) + 1)) (hn : is.length ≤ 1000) (hi : ∀ i ∈ is, i < d.ns.length) (b : Bool) (hb : barred d t is = b) (hu : b = true → Untouched d t) :
    Calls Tryz.prog 216 #[pt s, .int .i64 t, .int .i64 0, .slice (some ⟨L, 0, none⟩) is.length is.length] w fun e w' => e = .returned (.int .i64 (if b then 6 else 0)) ∧ StoA O w' s p { d with c := if b then d.c.dropped t else d.c } ∧ FrO O w w' ∧ TFr stoT w w' := by
  have HH := hid h
  have HO := hid hO
  have HL := hid hL
  have HI := hid hi
  have HB := hid hb
  have HU := hid hu
  have hE0 := hid (sto_edge0 (w := w) (s := s))
  clear h hO hL hi hb hu
  go_enter Tryz.func216, Tryz.ntmps216
  go_wp2_with fail
  refine hE0.out.mono ?_
  rintro e w1 ⟨rfl, rfl⟩
  go_wp2_with fail
  go_loopw [9, 28] (fun e v wr => ∃ (j : Nat) (q : Bool), j ≤ is.length ∧ v = .int .i64 (j : Int) ∧ e = .int .i64 (if q then 6 else 0) ∧ Hid (barred d t (is.take j) = q) ∧ Hid (Below w.heap.size w wr)) (fun _ v _ => is.length - (intOf v).toNat)
  case atStart => exact ⟨0, false, Nat.zero_le _, rfl, rfl, rfl, Below.refl _ _⟩
  case round =>
    obtain ⟨j, q, hj, rfl, rfl, HQ, HW⟩ := hrel
    by_cases hlt : j < is.length
    · obtain ⟨i, hji⟩ : ∃ i, is[j]? = some i := ⟨_, List.getElem?_eq_getElem hlt⟩
      have hin := HI.out i (List.mem_of_getElem? hji)
      obtain ⟨l, hl⟩ : ∃ l, d.ns[i]? = some l := ⟨_, List.getElem?_eq_getElem hin⟩
      have hti : ((i : Int) + 1).toNat - 1 = i := by omega
      have HS := hid (HH.out.below HW.out)
      obtain ⟨X, S, hX, hC, _⟩ := HS.out.nodeAt ((i : Int) + 1) (by omega) l (by rw [hti]; exact hl)
      have HN := hid (sto_node HS.out ((i : Int) + 1) X (by omega) hX)
      have HCK := hid (nod_check HS.out hC t)
      have c0 := HS.out.c0
      have li : wr.cell? ⟨L, j, none⟩ = some (.int .i64 ((i : Int) + 1)) := by
        have h1 := HL.out.2 j ((i : Int) + 1) (by rw [List.getElem?_map, hji]; rfl)
        rw [← h1]
        exact HW.out.cell (p := ⟨L, j, none⟩) HL.out.1
      have HQ2 : Hid (barred d t (is.take (j + 1)) = (q || Cel.blocked d.c l t)) := by
        show _ = _
        have h1 := HQ.out
        unfold barred at h1 ⊢
        rw [List.take_add_one, hji, List.any_append, h1]
        simp [hl]
      have hjI : (j : Int) < (is.length : Int) := by omega
      clear hji hin hl hti hX hC
      cases q
      · obtain ⟨bl, hbl⟩ : ∃ bl, Cel.blocked d.c l t = bl := ⟨_, rfl⟩
        rw [hbl] at HCK HQ2
        simp only [Bool.false_or] at HQ2
        clear hbl
        go_wp2_with fail
        refine HN.out.mono ?_
        rintro e w2 ⟨rfl, rfl⟩
        go_wp2_with fail
        refine HCK.out.mono ?_
        rintro e w2 ⟨rfl, b2⟩
        have B2 := hid (bstep HW.out (Nat.le_refl _) b2)
        clear b2 HCK HN li
        go_wp2_with fail
        go_roundw
        case rel => exact ⟨j + 1, bl, by omega, by go_num, rfl, HQ2, B2⟩
        case measure => simp [intOf]; omega
      · go_wp2_with fail
        refine HN.out.mono ?_
        rintro e w2 ⟨rfl, rfl⟩
        go_wp2_with fail
        go_roundw
        case rel => exact ⟨j + 1, true, by omega, by go_num, rfl, by show _ = _; simpa using HQ2.out, HW⟩
        case measure => simp [intOf]; omega
    · obtain rfl : j = is.length := by omega
      have hqb : q = b := by have h1 := HQ.out; have h2 := HB.out; rw [List.take_length] at h1; rw [← h1, ← h2]
      subst hqb
      have HS := hid (HH.out.below HW.out)
      cases q
      · go_wp2_with fail
        go_ret
        exact ⟨rfl, HS.out, .of_below HW.out, .of_below HW.out⟩
      · have hU := HU.out rfl
        have HA := hid (sto_abort HS.out (HO.out.step HW.out.size) t hU.live hU.nodes hU.edges hU.linked)
        clear hU
        go_wp2_with fail
        refine HA.out.mono ?_
        rintro e w2 ⟨rfl, z1, z2, z3⟩
        have Z := hid z1
        have F := hid ((FrO.of_below HW.out).trans z2)
        have T := hid ((TFr.of_below (ts := stoT) HW.out).trans z3)
        clear z1 z2 z3 HA
        go_wp2_with fail
        go_ret
        exact ⟨rfl, Z.out, F.out, T.out⟩
end
end Go.Proofs.YtdfkdgnhpdgphaaGreatDoor

/-
  A store: an edge's cell written; ties.
-/
namespace Go.Proofs.YtdfkdgnhpdgphaaGreatDoor
open Go.RowKit Go.Proofs.Lig
attribute [local go_sem] run_store_float

section
variable {O : Nat → Prop} {w w' : World} {s : Nat} {p : StoP} {d : StoD}
abbrev edgVal (v : EdgV) : Value := .agg #[.int .i64 v.src, .int .i64 v.dst, .string v.ty, .float .f64 v.w]
set_option maxRecDepth 100000 in
theorem edg_write {C : Nat} {SC : List Nat} {c : Clk} (hc : ClkS w C SC c) (hg : c.Good) {X : Nat} {S : List Nat} {l : List (Ver EdgV)} (hX : Edg.CelS w X S l) (t : Int) (v : EdgV) (gone : Bool) (hbl : Cel.blocked c l t = false) (hn : l.length ≤ 1000000) :
    Calls Tryz.prog 156 #[pt X, pt C, .int .i64 t, edgVal v, .bool gone] w fun e w' => e = .returned (.int .i64 0) ∧ ∃ S', Edg.CelS w' X S' (Cel.written l t v gone) ∧ Sub S' S w.heap.size ∧ Fr S w w' := by
  obtain ⟨A, cap, hX, rfl⟩ := hX
  have B1 := below_alloc w (.cells #[.int .i64 v.src, .int .i64 v.dst, .string v.ty, .float .f64 v.w] 38)
  have more : Cel.mine l t = false → (Calls Tryz.prog 235 #[pt X, pt C, .int .i64 t] (w.alloc (.cells #[.int .i64 v.src, .int .i64 v.dst, .string v.ty, .float .f64 v.w] 38)) fun e w' => e = .returned (.int .i64 0) ∧ Below (w.alloc (.cells #[.int .i64 v.src, .int .i64 v.dst, .string v.ty, .float .f64 v.w] 38)).heap.size (w.alloc (.cells #[.int .i64 v.src, .int .i64 v.dst, .string v.ty, .float .f64 v.w] 38)) w') →
      Calls Tryz.prog 156 #[pt X, pt C, .int .i64 t, edgVal v, .bool gone] w fun e w' => e = .returned (.int .i64 0) ∧ ∃ S', Edg.CelS w' X S' (Cel.written l t v gone) ∧ Sub S' (X :: (Value.slice A l.length cap).ownBlock.toList) w.heap.size ∧ Fr (X :: (Value.slice A l.length cap).ownBlock.toList) w w' := fun hm hck => by
    refine (Edg.cel_write_more w X A cap (some ⟨C, 0, none⟩) l t v gone hX hm hn hck).mono ?_
    rintro e w' ⟨he, A', cap', h1, h2, h3⟩
    refine ⟨he, _, ?_, h2, h3⟩
    unfold Cel.written
    rw [hm]
    exact ⟨A', cap', h1, by simp⟩
  rcases List.eq_nil_or_concat l with rfl | ⟨l0, y, hcc⟩
  · exact more rfl (Edg.cel_check_empty _ X A cap (some ⟨C, 0, none⟩) t (hX.below B1))
  · rw [List.concat_eq_append] at hcc
    subst hcc
    have hl : (l0 ++ [y]).getLast? = some y := by simp
    have hv : c.clashes t y.who = false := by unfold Cel.blocked at hbl; rw [hl] at hbl; exact hbl
    have hck := Edg.cel_check_some _ X A cap (l0 ++ [y]) C SC c t y (hX.below B1) (hc.below B1) hg hl false hv
    by_cases hm : (y.who == t) = true
    · obtain ⟨g, rfl, _⟩ := hX.form (by simp)
      refine (Edg.cel_write_mine w X g cap (some ⟨C, 0, none⟩) l0 y t v gone hX hm hck).mono ?_
      rintro e w' ⟨he, h1, h2⟩
      refine ⟨he, [X, g], ?_, ?_, ?_⟩
      · unfold Cel.written Cel.mine
        rw [hl]
        simp only [hm, if_true, List.dropLast_concat]
        exact ⟨_, cap, h1, by simp [Value.ownBlock]⟩
      · intro k hk
        left
        simpa [Value.ownBlock] using hk
      · exact h2.mono (fun k hk => .inl (by simpa [Value.ownBlock] using hk))
    · refine more ?_ hck
      unfold Cel.mine
      rw [hl]
      simpa using hm


set_option maxRecDepth 100000 in
theorem OwnO.frozen {e : TypeId} {size : Nat} {A : Option Addr} {n cap : Nat} {cs : List Value} (h : OwnO O w e size A n cap cs) {g : Nat} (hA : A = some ⟨g, 0, none⟩) (j : Nat) : w.frozen? ⟨g, j, none⟩ = false := by
  subst hA
  exact h.own.frozenAt j
set_option maxRecDepth 100000 in
theorem encEnds_set (x : Int × Int) : ∀ (l : List (Int × Int)) (i : Nat), i < l.length → encEnds (l.set i x) = ((encEnds l).set (i * 2) (.int .i64 x.1)).set (i * 2 + 1) (.int .i64 x.2)
  | [], i, h => by simp at h
  | y :: l, 0, _ => rfl
  | y :: l, i + 1, h => by
    have ih := encEnds_set x l i (by simpa using h)
    have e1 : (i + 1) * 2 = i * 2 + 1 + 1 := by omega
    show [Value.int .i64 y.1, .int .i64 y.2] ++ encEnds (l.set i x) = ((([Value.int .i64 y.1, .int .i64 y.2] ++ encEnds l).set ((i + 1) * 2) _).set ((i + 1) * 2 + 1) _)
    rw [ih, e1]
    rfl
set_option maxRecDepth 100000 in
/-- A pair of ends turns. -/
theorem StoA.onEnd (h : StoA O w s p d) {i : Nat} (hi : i < d.ends.length) (g : Nat) (hg : p.dA = some ⟨g, 0, none⟩) (a b : Int) (hO : O g) :
    StoA O ((w.setCell ⟨g, i * 2, none⟩ (.int .i64 a)).setCell ⟨g, i * 2 + 1, none⟩ (.int .i64 b)) s p { d with ends := d.ends.set i (a, b) } ∧ FrO O w ((w.setCell ⟨g, i * 2, none⟩ (.int .i64 a)).setCell ⟨g, i * 2 + 1, none⟩ (.int .i64 b)) ∧ TFr [261] w ((w.setCell ⟨g, i * 2, none⟩ (.int .i64 a)).setCell ⟨g, i * 2 + 1, none⟩ (.int .i64 b)) := by
  have hr := h.drow.own
  rw [hg] at hr
  have h1 := (hr.stored (i * 2) (.int .i64 a)).1
  have h2 := (h1.stored (i * 2 + 1) (.int .i64 b)).1
  have hf : Fr [g] w ((w.setCell ⟨g, i * 2, none⟩ (.int .i64 a)).setCell ⟨g, i * 2 + 1, none⟩ (.int .i64 b)) := ((Fr.refl _ _).setCell (.inl (by simp)) _).setCell (.inl (by simp)) _
  obtain ⟨cur, hh⟩ : ∃ cur, w.heap[g]? = some (.cells cur 261 (0, 0)) := by
    rcases hr.2 with ⟨hv, _⟩ | ⟨g', cap', cur, hv, _, hh, _⟩
    · injection hv with e1 _ _
      cases e1
    · injection hv with e1 _ _
      injection e1 with e1
      injection e1 with e1
      subst e1
      exact ⟨cur, hh⟩
  have ht : TFr [261] w ((w.setCell ⟨g, i * 2, none⟩ (.int .i64 a)).setCell ⟨g, i * 2 + 1, none⟩ (.int .i64 b)) := .of_fr hf (fun k hk => by
    obtain rfl : k = g := by simpa using hk
    exact ⟨cur, _, _, hh, by simp⟩)
  obtain ⟨SC, hc, hS⟩ := h.clk
  refine ⟨⟨?_, h.sO, ⟨SC, hc.tfr ht (by decide), hS⟩, h.good, h.nrow.tfr ht (by decide), h.erow.tfr ht (by decide), ⟨?_, ?_⟩, h.trow.tfr ht (by decide), h.nodes.tfr nod_law ht (by decide), h.edges.tfr edg_law ht (by decide), h.chains.tfr chn_law ht (by decide), by simpa using h.dl, h.bare⟩, .of_fr hf (fun k hk => by
    obtain rfl : k = g := by simpa using hk
    exact hO), ht⟩
  · simp only [List.length_set]
    exact h.blk.tfr ht (by decide)
  · rw [hg]
    simp only [List.length_set]
    rw [encEnds_set _ _ _ hi]
    exact h2
  · simp only [List.length_set]
    exact h.drow.at_

set_option maxHeartbeats 4000000 in
set_option maxRecDepth 100000 in
theorem sto_ties (h : StoA O w s p d) (hO : NewO O w) (t : Int) (i : Nat) (v : EdgV) (l : List (Ver EdgV)) (hl : d.es[i]? = some l) (hbl : Cel.blocked d.c l t = false) (hn : l.length ≤ 1000000)
    (hco : d.co = none ∨ chnHas d.co v.src ((i : Int) + 1) = true) (hci : d.ci = none ∨ chnHas d.ci v.dst ((i : Int) + 1) = true) :
    Calls Tryz.prog 81 #[pt s, .int .i64 t, .int .i64 ((i : Int) + 1), edgVal v, .bool false] w fun e w' => (∃ u, e = .returned u) ∧ StoA O w' s p { d with es := d.es.set i (Cel.written l t v false), ends := d.ends.set i (v.src, v.dst), co := chnAdded d.co v.src ((i : Int) + 1), ci := chnAdded d.ci v.dst ((i : Int) + 1) } ∧ FrO O w w' ∧ TFr stoT w w' := by
  have hi := (List.getElem?_eq_some_iff.1 hl).1
  have hie : i < d.ends.length := by rw [h.dl]; exact hi
  obtain ⟨x, hx⟩ : ∃ x, d.ends[i]? = some x := ⟨_, List.getElem?_eq_getElem hie⟩
  have hti : ((i : Int) + 1).toNat - 1 = i := by omega
  have B0 := hid (below_alloc w (.cells #[.int .i64 v.src, .int .i64 v.dst, .string v.ty, .float .f64 v.w] 38))
  have HB0 := hid (Blk.new w 38 [.int .i64 v.src, .int .i64 v.dst, .string v.ty, .float .f64 v.w])
  have H1 := hid (h.below B0.out)
  obtain ⟨g, hgA, e0', e1', hgl, hgO, hil, hmx⟩ := H1.out.endAt hx
  have HE := hid (H1.out.onEnd hie g hgA v.src v.dst hgO)
  have c3 := H1.out.c3
  rw [hgA] at c3
  have hb0 := HB0.out.cell 0
  have hb1 := HB0.out.cell 1
  have gf0 := (OwnO.frozen H1.out.drow hgA (i * 2))
  have gf1 := (OwnO.frozen H1.out.drow hgA (i * 2 + 1))
  simp only [List.getElem?_cons_zero, List.getElem?_cons_succ] at hb0 hb1
  have HO := hid hO
  have HBL := hid hbl
  have HNL := hid hn
  have HL := hid hl
  have HIE := hid hie
  have HCO := hid hco
  have HCI := hid hci
  have hi0 : (0 : Int) ≤ (i : Int) := by omega
  have hi1 : (i : Int) < (d.ends.length : Int) := by omega
  have hi2 : (i : Int) ≤ 9223372036854775806 := by omega
  obtain ⟨n, hnn⟩ : ∃ n, d.ends.length = n := ⟨_, rfl⟩
  rw [hnn] at c3 hi1
  have hw1 : IntKind.i64.wrap ((i : Int) + 1 - 1) = (i : Int) := by rw [IntKind.wrap_i64]; omega
  clear h hO hbl hn hl hco hci hx hi hie hil hmx hnn hgA
  go_enter Tryz.func81, Tryz.ntmps81
  go_wp2_with fail
  go_region
  obtain ⟨q1, q2, q3⟩ := HE.out
  have HBX := HB0.out.tfr q3 (by decide)
  have HQ1 := hid q1
  have HQ2 := hid ((FrO.of_below B0.out).trans q2)
  have HQ3 := hid ((TFr.of_below (ts := stoT) B0.out).trans (q3.mono (by decide)))
  have HBX := hid HBX
  clear q1 q2 q3 HE c3 hb0 hb1 gf0 gf1 e0' e1' HB0 H1 hw1
  obtain ⟨d2, hd2⟩ : ∃ d2 : StoD, d2 = { d with ends := d.ends.set i (v.src, v.dst) } := ⟨_, rfl⟩
  have HD2 := hid hd2
  have HL2 : Hid (d2.es[i]? = some l) := by rw [hd2]; exact HL
  have HC2 : Hid (d2.c = d.c) := by rw [hd2]; rfl
  rw [← hd2] at HQ1
  generalize World.setCell (World.setCell _ _ _) ⟨g, i * 2 + 1, none⟩ _ = w2 at *
  clear hd2
  have HQ1' := hid (HQ1.out.drewN 2)
  have c0 := HQ1'.out.c0
  have b0 : (w2.drewN 2).cell? ⟨w.heap.size, 0, none⟩ = some (.int .i64 v.src) := HBX.out.cell 0
  have b1 : (w2.drewN 2).cell? ⟨w.heap.size, 1, none⟩ = some (.int .i64 v.dst) := HBX.out.cell 1
  have b2 : (w2.drewN 2).cell? ⟨w.heap.size, 2, none⟩ = some (.string v.ty) := HBX.out.cell 2
  have b3 : (w2.drewN 2).cell? ⟨w.heap.size, 3, none⟩ = some (.float .f64 v.w) := HBX.out.cell 3
  go_wp2_with fail
  go_region_held3 (fun W => W.cell? ⟨s, 0, none⟩ = some (pt p.C) ∧ W.cell? ⟨w.heap.size, 0, none⟩ = some (.int .i64 v.src) ∧ W.cell? ⟨w.heap.size, 1, none⟩ = some (.int .i64 v.dst) ∧ W.cell? ⟨w.heap.size, 2, none⟩ = some (.string v.ty) ∧ W.cell? ⟨w.heap.size, 3, none⟩ = some (.float .f64 v.w))
    (first
      | exact ⟨c0, b0, b1, b2, b3⟩
      | exact ⟨q4, q50, q51, q52, q53⟩
      | go_keep)
    (first
      | (go_at_call 150
         obtain ⟨X, S, hX, hC, hS, turn⟩ := HQ1'.out.onEdge HL2.out
         refine (sto_edge HQ1'.out ((i : Int) + 1) X (by omega) (by have : ((i : Int) + 1).toNat - 1 = i := by omega
                                                                    rw [this]; exact hX)).mono ?_
         rintro e wn ⟨rfl, rfl⟩
         have HX := hid hX
         have HC := hid hC
         have HS := hid hS
         have TURN := hid turn
         clear hX hC hS turn)
      | (go_at_call 156
         obtain ⟨SC, hc2, _⟩ := HQ1'.out.clk
         refine (edg_write hc2 HQ1'.out.good HC.out t v false (by rw [HC2.out]; exact HBL.out) HNL.out).mono ?_
         rintro e w3 ⟨rfl, S', z1, z2, z3⟩
         have t3 := TFr.of_fr z3 HC.out.typed
         have q4 : w3.cell? ⟨s, 0, none⟩ = some (pt p.C) := (HQ1'.out.blk.tfr t3 (by decide)).cell 0
         have q5 := (HBX.out.drewN 2).tfr t3 (by decide)
         have q50 : w3.cell? ⟨w.heap.size, 0, none⟩ = some (.int .i64 v.src) := q5.cell 0
         have q51 : w3.cell? ⟨w.heap.size, 1, none⟩ = some (.int .i64 v.dst) := q5.cell 1
         have q52 : w3.cell? ⟨w.heap.size, 2, none⟩ = some (.string v.ty) := q5.cell 2
         have q53 : w3.cell? ⟨w.heap.size, 3, none⟩ = some (.float .f64 v.w) := q5.cell 3))
  have hO2 : NewO O (w2.drewN 2) := HO.out.step HQ2.out.size
  obtain ⟨y1, y2⟩ := TURN.out w3 S' _ z1 z2 z3 hO2
  have hwr : Cel.written l t v false = (l.dropLast ++ [⟨t, v, false⟩]) ∨ Cel.written l t v false = l ++ [⟨t, v, false⟩] := by unfold Cel.written; split; exact .inl rfl; exact .inr rfl
  have hany : ((Cel.written l t v false).any fun y => !y.gone) = true := by rcases hwr with e | e <;> rw [e] <;> simp
  have hil2 : i < d2.es.length := (List.getElem?_eq_some_iff.1 HL2.out).1
  have HLK := hid (sto_links y1 (HO.out.step (Nat.le_trans HQ2.out.size z3.size)) i (v.src, v.dst) (by rw [HD2.out]; simp [HIE.out]) (Cel.written l t v false) (by simp [hil2]) hany (by rw [HD2.out]; exact HCO.out) (by rw [HD2.out]; exact HCI.out))
  have F3 := hid ((HQ2.out.drewN 2).trans (.of_fr z3 HS.out))
  have T3 := hid ((HQ3.out.trans (.of_below (below_drewN' _ 2))).trans (y2.mono (ts' := stoT) (by decide)))
  clear z1 z2 z3 y1 y2 q4 q50 q51 q52 q53 q5 t3 hc2 c0 b0 b1 b2 b3 hwr hany hil2 hO2 TURN
  go_wp2_with fail
  refine HLK.out.mono ?_
  rintro e w4 ⟨⟨u, rfl⟩, x1, x2, x3⟩
  have X1 := hid x1
  have X2 := hid (F3.out.trans x2)
  have X3 := hid (T3.out.trans x3)
  clear x1 x2 x3 HLK
  go_wp2_with fail
  go_end0
  have := X1.out
  rw [HD2.out] at this
  exact ⟨⟨_, rfl⟩, this, X2.out, X3.out⟩
end
end Go.Proofs.YtdfkdgnhpdgphaaGreatDoor
