/-
  A drum: Write.
-/
import Derived.Deep.WholeRow
import Derived.Deep.RegionHeld3
import Derived.Great.BuildSlice
import Derived.Test.YtdfkdgnhpdgphaaGreatDoorSkw4
import Derived.Test.YtdfkdgnhpdgphaaGreatDoorSkw32
import Derived.Deep.AppendSrc
namespace Go.Proofs.YtdfkdgnhpdgphaaGreatDoor
open Go.RowKit Go.Proofs.Lig

set_option maxRecDepth 100000 in
theorem z65 : Tryz.zeroCells424.size = 65 := by kernel_rfl
theorem zone : Tryz.zeroCells424.all (·.oneCell') = true := by kernel_rfl
theorem size_write : (Tryz.prog.info? 424).map (·.size) = some 65 := by kernel_rfl
set_option maxRecDepth 100000 in
theorem info_write : (Tryz.prog.info? 424).map (fun i => (i.zero, i.size, i.bytes)) = some (some (.agg Tryz.zeroCells424), 65, 72) := by kernel_rfl
theorem size_arr : (Tryz.prog.info? 241).map (·.size) = some 64 := by kernel_rfl
theorem size_u8 : (Tryz.prog.info? 5).map (·.size) = some 1 := by kernel_rfl
/-- A write's cells: the sector's number and noughts. -/
noncomputable def wcells (i : Nat) : Array Value := Tryz.zeroCells424.setIfInBounds 0 (.int .i64 (i : Int))
set_option maxRecDepth 100000 in
theorem wcells_size (i : Nat) : (wcells i).size = 65 := by rw [wcells, Array.size_setIfInBounds, z65]
theorem wcells_one (i : Nat) : (wcells i).all (·.oneCell') = true := by
  rw [Array.all_eq_true_iff_forall_mem]
  intro v hv
  rw [wcells, Array.mem_iff_getElem?] at hv
  obtain ⟨j, hj⟩ := hv
  rw [Array.getElem?_setIfInBounds] at hj
  split at hj
  · split at hj
    · cases hj; rfl
    · cases hj
  · exact (Array.all_eq_true_iff_forall_mem.1 zone) v (Array.mem_of_getElem? hj)
section
variable {P : Program} {ops : Array Oper} {o : Oper} {a : Act} {w : World} {K : Act → World → Prop} {Q : Exit → Act → World → Prop} {E : Prop}
set_option maxRecDepth 100000 in
theorem step_load_mid (hgd : o.guard = none) (ty : TypeId) (x : Operand) (ho : o.op = .load ty x) (b o' : Nat) (hx : a.eval x = .pointer (some ⟨b, o', none⟩)) (cs : List Value) (d : TypeDesc) (hc : w.rangeAt b o' cs)
    (hu : P.underlying ty = some d) (hd : d.isRow = true) (hi : (P.info? ty).map (·.size) = some cs.length) (h : K (a.put o.dst (.agg cs.toArray)) w) :
    if Region.wanted o (yielded ops a.tmps) = true then Oper.wp P o a w K Q else E := by
  have hw : Region.wanted o (yielded ops a.tmps) = true := by simp [Region.wanted, hgd]
  rw [if_pos hw]
  exact wp_load_mid ty x ho b o' hx cs d hc hu hd hi h
set_option maxRecDepth 100000 in
theorem step_store_mid (hgd : o.guard = none) (ty : TypeId) (x y : Operand) (ho : o.op = .store ty x y) (b o' : Nat) (cells : Array Value) (hx : a.eval x = .pointer (some ⟨b, o', none⟩)) (hy : a.eval y = .agg cells)
    (ht : w.there b o' cells.size) (hi : (P.info? ty).map (·.size) = some cells.size) (h1 : cells.all (·.oneCell') = true) (h : K (a.put o.dst undef) (w.setCells b o' cells.toList)) :
    if Region.wanted o (yielded ops a.tmps) = true then Oper.wp P o a w K Q else E := by
  have hw : Region.wanted o (yielded ops a.tmps) = true := by simp [Region.wanted, hgd]
  rw [if_pos hw]
  exact wp_store_mid ty x y ho b o' cells hx hy ht hi h1 h
end

set_option maxRecDepth 100000 in
theorem zlist : Tryz.zeroCells424.toList = .int .i64 0 :: u8s (List.replicate 64 0) := by kernel_rfl
theorem wlist (i : Nat) : (wcells i).toList = .int .i64 (i : Int) :: u8s (List.replicate 64 0) := by
  rw [wcells, Array.toList_setIfInBounds, zlist]
  rfl
/-- A sector's bytes: what is written, and noughts behind. -/
def padded (xs : List Int) : List Int := xs ++ List.replicate (64 - xs.length) 0
set_option maxRecDepth 100000 in
theorem padded_len {xs : List Int} (h : xs.length ≤ 64) : (padded xs).length = 64 := by simp [padded]; omega
theorem padded_bytes {xs : List Int} (h : IsBytes xs) : IsBytes (padded xs) := h.append (fun x hx => by
  have := List.eq_of_mem_replicate hx
  omega)
set_option maxRecDepth 100000 in
theorem splice_w (i : Nat) {xs : List Int} (_h : xs.length ≤ 64) : splice (wcells i).toList 1 (u8s xs) = .int .i64 (i : Int) :: u8s (padded xs) := by
  rw [wlist]
  have : (u8s xs).length = xs.length := by simp [u8s]
  simp only [splice, List.take_succ_cons, List.take_zero, this]
  rw [Nat.add_comm 1, List.drop_succ_cons]
  simp only [u8s, padded, List.map_append, List.map_replicate, List.drop_replicate, List.cons_append, List.nil_append]

set_option maxRecDepth 100000 in
theorem BSrc.fr {w w' : World} {S : List Nat} {A : Option Addr} {cap : Nat} {xs : List Int} (h : BSrc w A cap xs) (hf : Fr S w w') (hn : ∀ ad, A = some ad → ad.block ∉ S) : BSrc w' A cap xs :=
  ⟨fun ad had => ⟨Nat.lt_of_lt_of_le (h.cells ad had).1 hf.size, fun j u hu => (hf.cell (p := ad.add j) (by unfold Addr.add; split <;> exact (h.cells ad had).1) (by unfold Addr.add; split <;> exact hn ad had)).trans ((h.cells ad had).2 j u hu)⟩, h.none_, h.bytes⟩

set_option maxHeartbeats 1000000 in
set_option maxRecDepth 100000 in
theorem drum_write (w : World) (N D G M n : Nat) (good now : List Int) (wait : Value) (k : Nat) (ws : List Value) (i : Nat) (A : Option Addr) (cap : Nat) (xs : List Int) (h : Drm w N D G M n good now wait k ws) (hi : i < n) (_hn : n ≤ 200) (hk : k ≤ 100000) (hN : N ≤ w.heap.size) (hA : BSrc w A cap xs) (hAD : ∀ ad, A = some ad → ad.block ≠ D) (hx : xs.length ≤ 64) :
    Calls Tryz.prog 267 #[.pointer (some ⟨D, 0, none⟩), .int .i64 (i : Int), .slice A xs.length cap] w fun e w' => e = .returned (.int .i64 0) ∧ ∃ now' wait' ws', Drm w' N D G M n good now' wait' (k + 1) ws' ∧ TFr drmT w w' ∧ Below N w w' := by
  have HL := hid (drum_lives h)
  have HH := hid h
  have HA := hid hA
  have HAD := hid hAD
  have hi1 : (i : Int) < (n : Int) := by omega
  have hx1 : (xs.length : Int) ≤ 64 := by omega
  have HNN := hid hN
  have HBD := hid h.blk
  have HXB := hid hA.bytes
  clear h hA hAD hN
  go_enter Tryz.func267, Tryz.ntmps267
  go_wp2_with fail
  refine HL.out.mono ?_
  rintro e w1 ⟨rfl, q1, f1⟩
  have Q1 := hid q1
  have F1 := hid f1
  have h1 := Q1.out.blk.cell 1
  simp only [List.getElem?_cons_zero, List.getElem?_cons_succ] at h1
  have hst : (storeCells ⟨w1.heap.size, 0, none⟩ (Tryz.zeroCells424.toList.set 0 (.int .i64 (i : Int)))).run Tryz.prog (w1.alloc (.cells Tryz.zeroCells424 424)) = .ok () (w1.alloc (.cells (wcells i) 424)) := by
    have := run_storeCells_new (P := Tryz.prog) w1 424 Tryz.zeroCells424 (wcells i) (by rw [size_write, wcells_size]) (by rw [z65, wcells_size]) (wcells_one i)
    simpa [wcells] using this
  have hS1 : BSrc (w1.alloc (.cells (wcells i) 424)) A cap xs := (HA.out.fr f1 (fun ad had => by simpa using HAD.out ad had)).below ((Below.refl _ _).alloc (Nat.le_refl _) _)
  have hG : Blk (w1.alloc (.cells (wcells i) 424)) w1.heap.size 424 (wcells i).toList := by
    have := Blk.new w1 424 (wcells i).toList
    rwa [Array.toArray_toList] at this
  obtain ⟨w3, hcp, hb3, hf3⟩ := run_copy_all (P := Tryz.prog) (w1.alloc (.cells (wcells i) 424)) 81 81 3 5 Tryz.underlying81 size_u8 (some ⟨w1.heap.size, 1, none⟩) A 64 64 xs.length cap w1.heap.size 1 (wcells i).toList 424 hG (u8s xs) (by rw [u8s, List.length_map]; exact (Nat.min_eq_left hx).symm) (fun hp => ⟨rfl, by
    cases hA0 : A with
    | none => have := (hS1.none_ hA0).1; subst this; simp [u8s] at hp
    | some ad => exact ⟨ad, rfl, (hS1.cells ad hA0).2⟩⟩) (by have := wcells_size i; simp [u8s]; omega) (u8s_one xs)
  rw [splice_w i hx] at hb3
  have FA : Fr [] w1 (w1.alloc (.cells (wcells i) 424)) := (Fr.refl _ _).alloc _
  have F3 : Fr [w1.heap.size] w1 w3 := (FA.mono (fun q hq => by simp at hq)).trans_same hf3
  have Q3 : Drm w3 N D G M n good now wait k ws := by
    have hlt : ∀ q, q < w1.heap.size → q ∉ [w1.heap.size] := fun q hq hm => by simp at hm; omega
    exact ⟨q1.blk.fr F3 (hlt _ q1.blk.lt), ⟨q1.good.blk.fr F3 (hlt _ q1.good.blk.lt), q1.good.len, q1.good.bytes⟩, ⟨q1.now.blk.fr F3 (hlt _ q1.now.blk.lt), q1.now.len, q1.now.bytes⟩, own_fr q1.wait F3 (fun q hq => hlt q (q1.wait.lt q hq).2), q1.dN, q1.gN, q1.mN, q1.gm⟩
  have HQ3 := hid Q3
  have HB3 := hid hb3
  have HF3 := hid F3
  have HX := hid hx
  clear hS1 hG q1 f1 FA F3 hf3 Q3 hb3
  have hrange : ∀ W : World, Blk W w1.heap.size 424 (.int .i64 (i : Int) :: u8s (padded xs)) → W.rangeAt w1.heap.size 1 (u8s (padded xs)) := fun W hb => by
    have := hb.rangeMid 1 64
    rw [List.drop_succ_cons, List.drop_zero, List.take_of_length_le (by rw [u8s_len, padded_len hx]; omega)] at this
    exact this
  have HR : Hid (w3.rangeAt w1.heap.size 1 (u8s (padded xs))) := hrange _ HB3.out
  have HL64 : Hid ((u8s (padded xs)).length = 64) := by show _ = _; rw [u8s_len, padded_len hx]
  have hfit : i * 64 + (u8s (padded xs)).length ≤ (u8s now).length := by rw [HL64.out, u8s_len, HQ3.out.now.len]; omega
  have HM : Hid (w3.there M (i * 64) 64) := HQ3.out.now.blk.there _ _ (by rw [HL64.out] at hfit; exact hfit)
  have BM5 := Blk.setCells (u8s (padded xs)) (i * 64) (HQ3.out.now.blk.drew) hfit
  have F5 : Hid (Fr [M] w3 (w3.drew.setCells M (i * 64) (u8s (padded xs)))) := Fr.setCells (.inl (by simp)) _ _ (Fr.refl _ _).drew
  have hDM : D ≠ M := fun e => by subst e; have := (HQ3.out.blk.inj HQ3.out.now.blk).1; cases this
  have hTM : w1.heap.size ≠ M := fun e => by have := Q1.out.now.blk.lt; omega
  have HD5 := hid (HQ3.out.blk.fr F5.out (by simpa using hDM))
  have HT5 := hid (HB3.out.fr F5.out (by simpa using hTM))
  have HR5 := hid (hrange _ HT5.out)
  have HM5 : Hid ((w3.drew.setCells M (i * 64) (u8s (padded xs))).there M (i * 64) 64) := BM5.there _ _ (by
    have := HL64.out
    rw [HL64.out] at hfit
    simp only [List.length_append, List.length_take, List.length_drop, this]
    omega)
  have HBM5 := hid BM5
  clear hrange hfit BM5 hDM hTM
  have d1 := HQ3.out.blk.cell 1
  simp only [List.getElem?_cons_zero, List.getElem?_cons_succ] at d1
  have hu64 := under_arr
  have hl64 : (u8s (padded xs)).length = 64 := HL64.out
  have hi64 : (Tryz.prog.info? 241).map (·.size) = some (u8s (padded xs)).length := by rw [size_arr, hl64]
  have hone : ∀ v ∈ u8s (padded xs), v.oneCell' = true := u8s_one _
  go_wp2_with fail
  go_region_held3 (fun W => W.cell? ⟨D, 1, none⟩ = some (.slice (some ⟨M, 0, none⟩) n n) ∧ W.rangeAt w1.heap.size 1 (u8s (padded xs)) ∧ W.there M (i * 64) 64)
    (first | exact ⟨d1, HR.out, HM.out⟩ | exact ⟨HD5.out.cell 1, HR5.out, HM5.out⟩ | go_keep)
    (fail)
  generalize w3.drew.setCells M (i * 64) (u8s (padded xs)) = w5 at *
  clear hst hcp h1 d1 hu64 hl64 hi64 hone HR HM HR5 HM5 HL HA HAD
  have cs65 : ∃ cs : List Value, cs = .int .i64 (i : Int) :: u8s (padded xs) := ⟨_, rfl⟩
  obtain ⟨cs, hcs⟩ := cs65
  have hl65 : cs.length = 65 := by rw [hcs, List.length_cons, u8s_len, padded_len HX.out]
  have hone : ∀ v ∈ cs, v.oneCell' = true := by
    intro v hv
    rw [hcs] at hv
    rcases List.mem_cons.1 hv with rfl | hv
    · rfl
    · exact u8s_one _ v hv
  have hT5 := HT5.out
  rw [← hcs] at hT5
  have HT65 := hid hT5
  have hi65 : (Tryz.prog.info? 424).map (·.size) = some cs.length := by rw [size_write, hl65]
  have hu65 := Tryz.underlying424
  have d2 := HD5.out.cell 2
  have f2 := HD5.out.frozen 2
  have hDl := HD5.out.lt
  simp only [List.getElem?_cons_zero, List.getElem?_cons_succ] at d2
  obtain ⟨WA, wc, rfl⟩ := own_form HQ3.out.wait
  clear hcs hT5 HT5
  obtain ⟨iw, hiw, hzw0, hsw, hbw⟩ := info_parts info_write
  obtain ⟨zw, hzw, hzs⟩ : ∃ zw, iw.zero = some zw ∧ zw.cells.size = 65 := ⟨_, hzw0, z65⟩
  have hus := Tryz.underlying120
  have hfill : ∀ ps : List (Nat × Value), ps = [(0, .agg cs.toArray)] → Instr.fill (fun i => some (i * iw.size, iw.size)) ((Array.range (1 * iw.size)).map (zw.cells[· % zw.cells.size]!)) ps = some cs.toArray := by
    rintro ps rfl
    have := Great.fill_whole (s := iw.size) (by rw [hsw]; omega) [.agg cs.toArray] ((Array.range (1 * iw.size)).map (zw.cells[· % zw.cells.size]!)) (by intro v hv; simp at hv; subst hv; show cs.toArray.size = _; simp [hsw, hl65]) (by simp)
    rw [List.zipIdx_cons] at this
    simpa [Value.cells] using this
  have hnews : ∀ ad, some (⟨w5.heap.size, 0, none⟩ : Addr) = some ad → ∀ j u, cs[j]? = some u → ((w5.drew).alloc (.cells cs.toArray 424)).cell? (ad.add j) = some u := fun ad had => by
    cases had
    exact World.news_of_block (cs := cs.toArray) (heap_alloc_new w5.drew _)
  have hDT : D ≠ w1.heap.size := fun e => by subst e; have := (HD5.out.inj HT65.out).1; cases this
  have hTD := Ne.symm hDT
  have hown5 : Hid (w5.ownsRow N 424 65 (.slice WA k wc) k ws) := own_fr HQ3.out.wait F5.out (fun q hq hm => own_ne HQ3.out.wait HQ3.out.now.blk (by decide) (by rw [hq]; simpa using hm))
  have hown5d : w5.drew.ownsRow N 424 65 (.slice WA k wc) k ws := hown5.out
  have hown6 := hown5d.alloc (.cells cs.toArray 424)
  have hDW : (Value.slice WA k wc).ownBlock ≠ some D := own_ne hown5.out HD5.out (by decide)
  have hTW : (Value.slice WA k wc).ownBlock ≠ some w1.heap.size := fun e => by have := (Q1.out.wait.lt _ e).2; omega
  have hD6 := HD5.out.drew.alloc (.cells cs.toArray 424)
  have hB6T := HT65.out.drew.alloc (.cells cs.toArray 424)
  have hbase6 : N ≤ ((w5.drew).alloc (.cells cs.toArray 424)).heap.size := by
    have h1 := HNN.out; have h2 := F1.out.size; have h3 := HF3.out.size; have h4 := F5.out.size
    simp
    omega
  have FIN : ∀ A7 cap7 w7, w7.ownsRow N 424 65 (.slice A7 (k + 1) cap7) (k + 1) (ws ++ cs) → ((w5.drew).alloc (.cells cs.toArray 424)).grownBy w7 (Value.slice WA k wc).ownBlock → ((Value.slice A7 (k + 1) cap7).ownBlock = (Value.slice WA k wc).ownBlock ∨ (Value.slice A7 (k + 1) cap7).ownBlock = some ((w5.drew).alloc (.cells cs.toArray 424)).heap.size) →
      ∃ now' wait' ws', Drm (w7.setCell ⟨D, 2, none⟩ (.slice A7 (k + 1) cap7)) N D G M n good now' wait' (k + 1) ws' ∧ TFr drmT w (w7.setCell ⟨D, 2, none⟩ (.slice A7 (k + 1) cap7)) ∧ Below N w (w7.setCell ⟨D, 2, none⟩ (.slice A7 (k + 1) cap7)) := by
    intro A7 cap7 w7 hown7 hgrow7 hat7
    have hDs : D < w5.heap.size := HD5.out.lt
    have hDG : G ≠ D := fun e => by subst e; have := (HD5.out.inj (HQ3.out.good.blk.fr F5.out (by simpa using HQ3.out.gm))).1; cases this
    have hDM : M ≠ D := fun e => by subst e; have := (HD5.out.inj HBM5.out).1; cases this
    have hnD : (Value.slice A7 (k + 1) cap7).ownBlock ≠ some D := by
      rcases hat7 with h | h
      · rw [h]; exact hDW
      · rw [h]; simp; omega
    have hGW : (Value.slice WA k wc).ownBlock ≠ some G := own_ne hown5.out (HQ3.out.good.blk.fr F5.out (by simpa using HQ3.out.gm)) (by decide)
    have hMW : (Value.slice WA k wc).ownBlock ≠ some M := own_ne hown5.out HBM5.out (by decide)
    have bD := ((HD5.out.drew.alloc (.cells cs.toArray 424)).grown hgrow7 hDW).set_ 2 (.slice A7 (k + 1) cap7)
    have bG := (((HQ3.out.good.blk.fr F5.out (by simpa using HQ3.out.gm)).drew.alloc (.cells cs.toArray 424)).grown hgrow7 hGW).far (p := ⟨D, 2, none⟩) hDG (.slice A7 (k + 1) cap7)
    have bM := ((HBM5.out.drew.alloc (.cells cs.toArray 424)).grown hgrow7 hMW).far (p := ⟨D, 2, none⟩) hDM (.slice A7 (k + 1) cap7)
    have eM : List.take (i * 64) (u8s now) ++ u8s (padded xs) ++ List.drop (i * 64 + (u8s (padded xs)).length) (u8s now) = u8s (now.take (i * 64) ++ padded xs ++ now.drop (i * 64 + 64)) := by
      rw [HL64.out]
      simp [u8s]
    rw [eM] at bM
    have hnl := HQ3.out.now.len
    have f1 : TFr drmT w w1 := TFr.of_fr F1.out (fun q hq => by
      have : q = D := by simpa using hq
      subst this
      exact ⟨_, _, _, HBD.out, by simp⟩)
    have f3 : Fr [w1.heap.size] w1 w3 := HF3.out
    have f3b : Below w1.heap.size w1 w3 := f3.below (Nat.le_refl _) (by simp)
    have f5 : TFr drmT w3 w5 := TFr.of_fr F5.out (fun q hq => by
      have : q = M := by simpa using hq
      subst this
      exact ⟨_, _, _, HQ3.out.now.blk, by simp⟩)
    have f6b : Below w5.heap.size w5 ((w5.drew).alloc (.cells cs.toArray 424)) := (bdrewN (Below.refl _ w5) 1).alloc (Nat.le_refl _) _
    have f7 : TFr [424] ((w5.drew).alloc (.cells cs.toArray 424)) w7 := TFr.of_grown hown6 hgrow7
    have f8 : Fr [D] w7 (w7.setCell ⟨D, 2, none⟩ (.slice A7 (k + 1) cap7)) := (Fr.refl _ _).setCell (.inl (by simp)) _
    have hD7 := (HD5.out.drew.alloc (.cells cs.toArray 424)).grown hgrow7 hDW
    have f8t : TFr drmT w7 (w7.setCell ⟨D, 2, none⟩ (.slice A7 (k + 1) cap7)) := TFr.of_fr f8 (fun q hq => by
      have : q = D := by simpa using hq
      subst this
      exact ⟨_, _, _, hD7, by simp⟩)
    have hN := HNN.out
    have hs1 := F1.out.size
    have hs3 := f3.size
    have hs5 := F5.out.size
    have hs7 := hgrow7.size
    have b7 : Below N ((w5.drew).alloc (.cells cs.toArray 424)) w7 := grown_below hown6 hbase6 hgrow7
    simp only [World.size_alloc, World.size_drew] at hs7
    refine ⟨_, _, _, ⟨bD, ⟨bG, HQ3.out.good.len, HQ3.out.good.bytes⟩, ⟨bM, ?_, ?_⟩, own_far hown7 hnD _, HQ3.out.dN, HQ3.out.gN, HQ3.out.mN, HQ3.out.gm⟩, ?_, ?_⟩
    · rw [List.length_append, List.length_append, List.length_take, List.length_drop, padded_len HX.out]
      omega
    · exact (IsBytes.append (IsBytes.append (fun x hx => HQ3.out.now.bytes x (List.mem_of_mem_take hx)) (padded_bytes HXB.out)) (fun x hx => HQ3.out.now.bytes x (List.mem_of_mem_drop hx)))
    · exact (((((f1.trans (TFr.of_below f3b)).trans f5).trans (TFr.of_below f6b)).trans (f7.mono (by simp))).trans f8t)
    · have g1 : Below N w w1 := F1.out.below hN (by intro q hq; have : q = D := by simpa using hq
                                                    have := HQ3.out.dN; omega)
      have g5 : Below N w3 w5 := F5.out.below (by omega) (by intro q hq; have : q = M := by simpa using hq
                                                             have := HQ3.out.mN; omega)
      have g8 : Below N w7 (w7.setCell ⟨D, 2, none⟩ (.slice A7 (k + 1) cap7)) := f8.below (by omega) (by intro q hq; have : q = D := by simpa using hq
                                                                                                         have := HQ3.out.dN; omega)
      exact ((((g1.trans (f3b.mono (by omega))).trans g5).trans (f6b.mono (by omega))).trans b7).trans g8
  go_wp2_with fail
  -- REGION 8
  refine wp_region_held_drew (S := fun W => Blk W w1.heap.size 424 cs) (by kernel_rfl) HT65.out.drew (fun hHeld => ?_)
  refine wpAnyH_take (i := 0) (oi := { dst := some 43, op := Op.move (Operand.tmp 0), type := 25, pos := "drum.go:68", after := #[], guard := none }) (v := ?_) rfl (by kernel_rfl) (by kernel_rfl) (by kernel_rfl) (fun _ _ _ h => h) (Or.inl ⟨by rfl, ?_⟩) hHeld ?_
  rotate_left
  · (intro W1 hSw; (try dsimp only at hSw); go_simp; first | done | (with_reducible rfl))
  try simp only [Act.put, List.setIfInBounds_toArray, List.set_cons_zero, List.set_cons_succ]
  refine wpAnyH_take (i := 1) (oi := { dst := some 44, op := Op.move (Operand.tmp 0), type := 25, pos := "drum.go:68", after := #[], guard := none }) (v := ?_) rfl (by kernel_rfl) (by kernel_rfl) (by kernel_rfl) (fun _ _ _ h => h) (Or.inl ⟨by rfl, ?_⟩) hHeld ?_
  rotate_left
  · (intro W1 hSw; (try dsimp only at hSw); go_simp; first | done | (with_reducible rfl))
  try simp only [Act.put, List.setIfInBounds_toArray, List.set_cons_zero, List.set_cons_succ]
  refine wpAnyH_take (i := 2) (oi := { dst := some 45, op := Op.nilCheck (Operand.tmp 44), type := 0, pos := "drum.go:68", after := #[{ on := 1, ground := Ground.data }], guard := none }) (v := ?_) rfl (by kernel_rfl) (by kernel_rfl) (by kernel_rfl) (fun _ _ _ h => h) (Or.inl ⟨by rfl, ?_⟩) hHeld ?_
  rotate_left
  · (intro W1 hSw; (try dsimp only at hSw); go_simp; first | done | (with_reducible rfl))
  try simp only [Act.put, List.setIfInBounds_toArray, List.set_cons_zero, List.set_cons_succ]
  refine wpAnyH_take (i := 3) (oi := { dst := some 46, op := Op.fieldAddr 122 (Operand.tmp 45) 2, type := 0, pos := "drum.go:68", after := #[{ on := 2, ground := Ground.data }], guard := none }) (v := ?_) rfl (by kernel_rfl) (by kernel_rfl) (by kernel_rfl) (fun _ _ _ h => h) (Or.inl ⟨by rfl, ?_⟩) hHeld ?_
  rotate_left
  · (intro W1 hSw; (try dsimp only at hSw); go_simp; first | done | (with_reducible rfl))
  try simp only [Act.put, List.setIfInBounds_toArray, List.set_cons_zero, List.set_cons_succ]
  refine wpAnyH_take (i := 5) (oi := { dst := some 48, op := Op.load 424 (Operand.tmp 7), type := 424, pos := "drum.go:68", after := #[], guard := none }) (v := .agg cs.toArray) rfl (by kernel_rfl) (by kernel_rfl) (by kernel_rfl) (fun _ _ _ h => h) (yieldsIf_load_mid (by rfl) _ _ rfl _ _ rfl cs _ (fun W hSw => hSw.range) hu65 rfl hi65) hHeld ?_
  try simp only [Act.put, List.setIfInBounds_toArray, List.set_cons_zero, List.set_cons_succ]
  refine wpAnyH_ready (rs := [4, 6]) (by kernel_rfl) (by simp) ?_
  refine AllReadyH.cons (o := { dst := some 47, op := Op.load 120 (Operand.tmp 46), type := 120, pos := "drum.go:68", after := #[{ on := 3, ground := Ground.data }], guard := none }) rfl (fun K hK => ?_) (AllReadyH.cons (o := { dst := some 49, op := Op.buildSlice 120 1 #[(0, Operand.tmp 48)], type := 120, pos := "drum.go:68", after := #[{ on := 5, ground := Ground.data }], guard := none }) rfl (fun K hK => ?_) AllReadyH.nil)
  · rw [if_pos (by rfl)]
    go_simp
    refine hK.out _ _ hHeld (fun hHeld => ?_)
    clear hK K
    try simp only [Act.put, List.setIfInBounds_toArray, List.set_cons_zero, List.set_cons_succ]
    refine wpAnyH_ready (rs := [6]) (by kernel_rfl) (by simp) ?_
    refine AllReadyH.cons (o := { dst := some 49, op := Op.buildSlice 120 1 #[(0, Operand.tmp 48)], type := 120, pos := "drum.go:68", after := #[{ on := 5, ground := Ground.data }], guard := none }) rfl (fun K hK => ?_) AllReadyH.nil
    rw [if_pos (by rfl)]
    refine wp_buildSlice _ _ _ _ rfl cs.toArray iw zw hus hiw hzw (by rw [hsw]; omega) (by rw [hsw]; omega) (by refine hfill _ ?_; first | rfl | simp [Act.eval]) ?_
    refine hK.out _ _ (hHeld.alloc _) (fun hHeld => ?_)
    clear hK K
    try simp only [Act.put, List.setIfInBounds_toArray, List.set_cons_zero, List.set_cons_succ]
    refine wpAnyH_ready (rs := [7]) (by kernel_rfl) (by simp) ?_
    refine AllReadyH.cons (o := { dst := some 50, op := Op.call { callee := Callee.builtin Builtin.append, args := #[Operand.tmp 47, Operand.tmp 49], argTypes := #[120, 120] }, type := 120, pos := "drum.go:68", after := #[{ on := 4, ground := Ground.data }, { on := 6, ground := Ground.data }], guard := none }) rfl (fun K hK => ?_) AllReadyH.nil
    refine step_append_all rfl _ _ _ rfl N 424 iw zw 65 72 hus hiw hzw hsw hbw hzs (by omega) WA wc k ws rfl hown6 (some ⟨w5.heap.size, 0, none⟩) 1 1 cs rfl (by rw [hl65]) (by simp) hnews hone (by unfold maxLen; omega) (by omega) hbase6 ?_
    intro A7 cap7 w7 hown7 hgrow7 hat7
    refine hK.out _ _ (hB6T.grown hgrow7 hTW) (fun hHeld => ?_)
    clear hK K
    try simp only [Act.put, List.setIfInBounds_toArray, List.set_cons_zero, List.set_cons_succ]
    refine wpAnyH_take (i := 8) (oi := { dst := some 51, op := Op.nilCheck (Operand.tmp 43), type := 0, pos := "drum.go:68", after := #[{ on := 0, ground := Ground.data }, { on := 0, ground := Ground.phase }, { on := 1, ground := Ground.phase }, { on := 2, ground := Ground.phase }, { on := 3, ground := Ground.phase }, { on := 4, ground := Ground.phase }, { on := 5, ground := Ground.phase }, { on := 6, ground := Ground.phase }, { on := 7, ground := Ground.phase }], guard := none }) (v := ?_) rfl (by kernel_rfl) (by kernel_rfl) (by kernel_rfl) (fun _ _ _ h => h) (Or.inl ⟨by rfl, ?_⟩) hHeld ?_
    rotate_left
    · (intro W1 hSw; (try dsimp only at hSw); go_simp; first | done | (with_reducible rfl))
    try simp only [Act.put, List.setIfInBounds_toArray, List.set_cons_zero, List.set_cons_succ]
    refine wpAnyH_take (i := 9) (oi := { dst := some 52, op := Op.fieldAddr 122 (Operand.tmp 51) 2, type := 0, pos := "drum.go:68", after := #[{ on := 8, ground := Ground.data }, { on := 0, ground := Ground.phase }, { on := 1, ground := Ground.phase }, { on := 2, ground := Ground.phase }, { on := 3, ground := Ground.phase }, { on := 4, ground := Ground.phase }, { on := 5, ground := Ground.phase }, { on := 6, ground := Ground.phase }, { on := 7, ground := Ground.phase }], guard := none }) (v := ?_) rfl (by kernel_rfl) (by kernel_rfl) (by kernel_rfl) (fun _ _ _ h => h) (Or.inl ⟨by rfl, ?_⟩) hHeld ?_
    rotate_left
    · (intro W1 hSw; (try dsimp only at hSw); go_simp; first | done | (with_reducible rfl))
    try simp only [Act.put, List.setIfInBounds_toArray, List.set_cons_zero, List.set_cons_succ]
    refine wpAnyH_ready (rs := [10]) (by kernel_rfl) (by simp) ?_
    refine AllReadyH.cons (o := { dst := none, op := Op.store 120 (Operand.tmp 52) (Operand.tmp 50), type := 0, pos := "drum.go:68", after := #[{ on := 9, ground := Ground.data }, { on := 7, ground := Ground.data }, { on := 7, ground := Ground.chain }, { on := 0, ground := Ground.phase }, { on := 1, ground := Ground.phase }, { on := 2, ground := Ground.phase }, { on := 3, ground := Ground.phase }, { on := 4, ground := Ground.phase }, { on := 5, ground := Ground.phase }, { on := 6, ground := Ground.phase }, { on := 7, ground := Ground.phase }], guard := none }) rfl (fun K hK => ?_) AllReadyH.nil
    rw [if_pos (by rfl)]
    have hD7 := hD6.grown hgrow7 hDW
    have d7 := hD7.cell 2
    have f7 := hD7.frozen 2
    simp only [List.getElem?_cons_zero, List.getElem?_cons_succ] at d7
    go_simp
    refine hK.out _ _ (hHeld.far (by simpa using hTD) _) (fun hHeld => ?_)
    clear hK K
    refine wpAnyH_done (by kernel_rfl) ?_ _
    go_wp2
    go_ret
    exact ⟨rfl, FIN A7 cap7 w7 hown7 hgrow7 hat7⟩
  · rw [if_pos (by rfl)]
    refine wp_buildSlice _ _ _ _ rfl cs.toArray iw zw hus hiw hzw (by rw [hsw]; omega) (by rw [hsw]; omega) (by refine hfill _ ?_; first | rfl | simp [Act.eval]) ?_
    refine hK.out _ _ (hHeld.alloc _) (fun hHeld => ?_)
    clear hK K
    try simp only [Act.put, List.setIfInBounds_toArray, List.set_cons_zero, List.set_cons_succ]
    refine wpAnyH_ready (rs := [4]) (by kernel_rfl) (by simp) ?_
    refine AllReadyH.cons (o := { dst := some 47, op := Op.load 120 (Operand.tmp 46), type := 120, pos := "drum.go:68", after := #[{ on := 3, ground := Ground.data }], guard := none }) rfl (fun K hK => ?_) AllReadyH.nil
    rw [if_pos (by rfl)]
    go_simp
    refine hK.out _ _ hHeld (fun hHeld => ?_)
    clear hK K
    try simp only [Act.put, List.setIfInBounds_toArray, List.set_cons_zero, List.set_cons_succ]
    refine wpAnyH_ready (rs := [7]) (by kernel_rfl) (by simp) ?_
    refine AllReadyH.cons (o := { dst := some 50, op := Op.call { callee := Callee.builtin Builtin.append, args := #[Operand.tmp 47, Operand.tmp 49], argTypes := #[120, 120] }, type := 120, pos := "drum.go:68", after := #[{ on := 4, ground := Ground.data }, { on := 6, ground := Ground.data }], guard := none }) rfl (fun K hK => ?_) AllReadyH.nil
    refine step_append_all rfl _ _ _ rfl N 424 iw zw 65 72 hus hiw hzw hsw hbw hzs (by omega) WA wc k ws rfl hown6 (some ⟨w5.heap.size, 0, none⟩) 1 1 cs rfl (by rw [hl65]) (by simp) hnews hone (by unfold maxLen; omega) (by omega) hbase6 ?_
    intro A7 cap7 w7 hown7 hgrow7 hat7
    refine hK.out _ _ (hB6T.grown hgrow7 hTW) (fun hHeld => ?_)
    clear hK K
    try simp only [Act.put, List.setIfInBounds_toArray, List.set_cons_zero, List.set_cons_succ]
    refine wpAnyH_take (i := 8) (oi := { dst := some 51, op := Op.nilCheck (Operand.tmp 43), type := 0, pos := "drum.go:68", after := #[{ on := 0, ground := Ground.data }, { on := 0, ground := Ground.phase }, { on := 1, ground := Ground.phase }, { on := 2, ground := Ground.phase }, { on := 3, ground := Ground.phase }, { on := 4, ground := Ground.phase }, { on := 5, ground := Ground.phase }, { on := 6, ground := Ground.phase }, { on := 7, ground := Ground.phase }], guard := none }) (v := ?_) rfl (by kernel_rfl) (by kernel_rfl) (by kernel_rfl) (fun _ _ _ h => h) (Or.inl ⟨by rfl, ?_⟩) hHeld ?_
    rotate_left
    · (intro W1 hSw; (try dsimp only at hSw); go_simp; first | done | (with_reducible rfl))
    try simp only [Act.put, List.setIfInBounds_toArray, List.set_cons_zero, List.set_cons_succ]
    refine wpAnyH_take (i := 9) (oi := { dst := some 52, op := Op.fieldAddr 122 (Operand.tmp 51) 2, type := 0, pos := "drum.go:68", after := #[{ on := 8, ground := Ground.data }, { on := 0, ground := Ground.phase }, { on := 1, ground := Ground.phase }, { on := 2, ground := Ground.phase }, { on := 3, ground := Ground.phase }, { on := 4, ground := Ground.phase }, { on := 5, ground := Ground.phase }, { on := 6, ground := Ground.phase }, { on := 7, ground := Ground.phase }], guard := none }) (v := ?_) rfl (by kernel_rfl) (by kernel_rfl) (by kernel_rfl) (fun _ _ _ h => h) (Or.inl ⟨by rfl, ?_⟩) hHeld ?_
    rotate_left
    · (intro W1 hSw; (try dsimp only at hSw); go_simp; first | done | (with_reducible rfl))
    try simp only [Act.put, List.setIfInBounds_toArray, List.set_cons_zero, List.set_cons_succ]
    refine wpAnyH_ready (rs := [10]) (by kernel_rfl) (by simp) ?_
    refine AllReadyH.cons (o := { dst := none, op := Op.store 120 (Operand.tmp 52) (Operand.tmp 50), type := 0, pos := "drum.go:68", after := #[{ on := 9, ground := Ground.data }, { on := 7, ground := Ground.data }, { on := 7, ground := Ground.chain }, { on := 0, ground := Ground.phase }, { on := 1, ground := Ground.phase }, { on := 2, ground := Ground.phase }, { on := 3, ground := Ground.phase }, { on := 4, ground := Ground.phase }, { on := 5, ground := Ground.phase }, { on := 6, ground := Ground.phase }, { on := 7, ground := Ground.phase }], guard := none }) rfl (fun K hK => ?_) AllReadyH.nil
    rw [if_pos (by rfl)]
    have hD7 := hD6.grown hgrow7 hDW
    have d7 := hD7.cell 2
    have f7 := hD7.frozen 2
    simp only [List.getElem?_cons_zero, List.getElem?_cons_succ] at d7
    go_simp
    refine hK.out _ _ (hHeld.far (by simpa using hTD) _) (fun hHeld => ?_)
    clear hK K
    refine wpAnyH_done (by kernel_rfl) ?_ _
    go_wp2
    go_ret
    exact ⟨rfl, FIN A7 cap7 w7 hown7 hgrow7 hat7⟩
end Go.Proofs.YtdfkdgnhpdgphaaGreatDoor

/-
  A drum: Sync.
-/
namespace Go.Proofs.YtdfkdgnhpdgphaaGreatDoor
open Go.RowKit Go.Proofs.Lig

section
variable {P : Program} {ops : Array Oper} {o : Oper} {a : Act} {w : World} {K : Act → World → Prop} {Q : Exit → Act → World → Prop} {E : Prop}
set_option maxRecDepth 100000 in
theorem step_copy_rows (hgd : o.guard = none) (d s : Operand) (dT sT : TypeId) (ho : o.op = .call { callee := .builtin .copy, args := #[d, s], argTypes := #[dT, sT] })
    (e : TypeId) (i : TypeInfo) (hu : P.underlying dT = some (.slice e)) (hi : P.info? e = some i) (g n dc : Nat) (ad : Addr) (sc : Nat) (hd : a.eval d = .slice (some ⟨g, 0, none⟩) n dc) (hs : a.eval s = .slice (some ad) n sc)
    (cs : List Value) (hl : cs.length = n * i.size) (hsrc : ∀ j u, cs[j]? = some u → w.cell? (ad.add j) = some u) (ht : w.there g 0 cs.length) (h1 : ∀ u ∈ cs, u.oneCell' = true)
    (h : K (a.put o.dst (goInt n)) (w.setCells g 0 cs)) : if Region.wanted o (yielded ops a.tmps) = true then Oper.wp P o a w K Q else E := by
  have hw : Region.wanted o (yielded ops a.tmps) = true := by simp [Region.wanted, hgd]
  rw [if_pos hw]
  have hf := run_firstCells_some (P := P) w i.size n ad n sc cs hl hsrc
  have hst := run_storeCells_cells (P := P) g 0 cs 0 w (fun j hj => by simpa using (ht j (by simpa using hj)).1) (fun j hj => by simpa using (ht j (by simpa using hj)).2) h1
  have hrun : (Builtin.copy_ #[dT, sT] o.type #[.slice (some ⟨g, 0, none⟩) n dc, .slice (some ad) n sc]).run P w = .ok (goInt n) (w.setCells g 0 cs) := by
    simp [Builtin.copy_, run_underlying hu, Builtin.lenOf, sizeOf, typeInfo, hi, hf, hst]
  unfold Oper.wp
  simp [execOp, ho, resolve, invoke, builtin, hd, hs, hrun, Result.andThen]
  exact h
end

set_option maxHeartbeats 1000000 in
set_option maxRecDepth 100000 in
theorem drum_sync (w : World) (N D G M n : Nat) (good now : List Int) (wait : Value) (k : Nat) (ws : List Value) (h : Drm w N D G M n good now wait k ws) (hN : N ≤ w.heap.size) :
    Calls Tryz.prog 268 #[.pointer (some ⟨D, 0, none⟩)] w fun e w' => e = .returned (.int .i64 0) ∧ ∃ good', Drm w' N D G M n good' now (.slice none 0 0) 0 [] ∧ TFr drmT w w' ∧ Below N w w' := by
  obtain ⟨ia, hia, _, hsa, hba⟩ := info_parts info_sec
  have HL := hid (drum_lives h)
  have HB := hid h.blk
  have HNN := hid hN
  clear h hN
  go_enter Tryz.func268, Tryz.ntmps268
  go_wp2_with fail
  refine HL.out.mono ?_
  rintro e w1 ⟨rfl, q1, f1⟩
  have Q1 := hid q1
  have F1 := hid f1
  have h0 := q1.blk.cell 0
  have h1 := q1.blk.cell 1
  simp only [List.getElem?_cons_zero, List.getElem?_cons_succ] at h0 h1
  have hus := Tryz.underlying119
  clear q1 f1 HL
  have HT : Hid (∀ W, W = w1.drew → W.there G 0 (u8s now).length) := fun W e => by
    subst e
    exact Q1.out.good.blk.drew.there _ _ (by have h1 := Q1.out.good.len; have h2 := Q1.out.now.len; simp [u8s]; omega)
  have BG := Blk.setCells (u8s now) 0 Q1.out.good.blk.drew (by have h1 := Q1.out.good.len; have h2 := Q1.out.now.len; simp [u8s]; omega)
  have FG : Hid (Fr [G] w1 (w1.drew.setCells G 0 (u8s now))) := Fr.setCells (.inl (by simp)) _ _ (Fr.refl _ _).drew
  have hDG : D ≠ G := fun e => by subst e; have := (Q1.out.blk.inj Q1.out.good.blk).1; cases this
  have BD := hid (Q1.out.blk.fr FG.out (by simpa using hDG))
  have BM := hid (Q1.out.now.blk.fr FG.out (by simpa using Q1.out.gm.symm))
  have BG := hid BG
  go_wp2_with fail
  go_region_law (refine step_copy_rows rfl _ _ _ _ rfl 241 ia hus hia G n _ ⟨M, 0, none⟩ _ rfl rfl (u8s now) (by rw [hsa, u8s, List.length_map, Q1.out.now.len]) (fun j u hu => by rw [Addr.add_mid, Nat.zero_add]; exact (Q1.out.now.blk.drew.cell j).trans hu) (HT.out _ rfl) (u8s_one _) ?_)
  all_goals
    have hD2 := BD.out.cell 2
    have fD2 := BD.out.frozen 2
    have lD2 := BD.out.lt
    simp only [List.getElem?_cons_zero, List.getElem?_cons_succ] at hD2
    generalize w1.drew.setCells G 0 (u8s now) = w2 at *
    go_wp2_with fail
    go_ret
    have hl := Q1.out.now.len
    have hlg := Q1.out.good.len
    have eG : List.take 0 (u8s good) ++ u8s now ++ List.drop (0 + (u8s now).length) (u8s good) = u8s now := by
      rw [List.drop_eq_nil_of_le (by simp [u8s]; omega)]
      simp
    have bG := BG.out
    rw [eG] at bG
    have hGD : G ≠ D := Ne.symm hDG
    have hMD : M ≠ D := fun e => by subst e; have := (BD.out.inj BM.out).1; cases this
    have f1 : TFr drmT w w1 := TFr.of_fr F1.out (fun q hq => by
      have : q = D := by simpa using hq
      subst this
      exact ⟨_, _, _, HB.out, by simp⟩)
    have f2 : TFr drmT w1 w2 := TFr.of_fr FG.out (fun q hq => by
      have : q = G := by simpa using hq
      subst this
      exact ⟨_, _, _, Q1.out.good.blk, by simp⟩)
    have f3' : Fr [D] w2 (w2.setCell ⟨D, 2, none⟩ (.slice none 0 0)) := (Fr.refl _ _).setCell (.inl (by simp)) _
    have f3 : TFr drmT w2 (w2.setCell ⟨D, 2, none⟩ (.slice none 0 0)) := TFr.of_fr f3' (fun q hq => by
      have : q = D := by simpa using hq
      subst this
      exact ⟨_, _, _, BD.out, by simp⟩)
    have hN := HNN.out
    have s1 := F1.out.size
    have s2 := FG.out.size
    have nD := Q1.out.dN
    have nG := Q1.out.gN
    refine ⟨by first | rfl | simp, now, ⟨BD.out.set_ 2 _, ⟨bG.far hGD _, Q1.out.now.len, Q1.out.now.bytes⟩, ⟨BM.out.far hMD _, Q1.out.now.len, Q1.out.now.bytes⟩, World.ownsRow_nil _ _ _ _, nD, nG, Q1.out.mN, Q1.out.gm⟩, (f1.trans f2).trans f3, ?_⟩
    have b1 : Below N w w1 := F1.out.below hN (by intro q hq; have : q = D := by simpa using hq
                                                  omega)
    have b2 : Below N w1 w2 := FG.out.below (by omega) (by intro q hq; have : q = G := by simpa using hq
                                                           omega)
    have b3 : Below N w2 (w2.setCell ⟨D, 2, none⟩ (.slice none 0 0)) := f3'.below (by omega) (by intro q hq; have : q = D := by simpa using hq
                                                                                                 omega)
    exact (b1.trans b2).trans b3
end Go.Proofs.YtdfkdgnhpdgphaaGreatDoor
